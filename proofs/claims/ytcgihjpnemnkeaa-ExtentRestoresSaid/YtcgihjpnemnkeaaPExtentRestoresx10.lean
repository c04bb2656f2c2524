-- Written for this claim by a program of this session (wip/), out of the translation's own print: Lean checks it
import Derived.Test.YtcgihjpnemnkeaaPExtentRestoresx0
import Derived.Test.YtcgihjpnemnkeaaIns4
import Derived.Test.YtcgihjpnemnkeaaWRepsOne
import Derived.Test.YtcgihjpnemnkeaaWGuard
import Derived.Test.YtcgihjpnemnkeaaPExtentRestoresx2
import Derived.Test.YtcgihjpnemnkeaaPExtentRestoresx6
import Derived.Test.YtcgihjpnemnkeaaPExtentRestoresx7
import Derived.Test.YtcgihjpnemnkeaaPExtentRestoresx8
import Derived.Test.YtcgihjpnemnkeaaPExtentRestoresx9
namespace Go.Proofs.Ytcgihjpnemnkeaa.PExtentRestores
open Go.RowKit Go.Proofs.YtcgihjpnemnkeaaW.PrintWords Go.Proofs.YtcgihjpnemnkeaaW.PrintLast Go.Proofs.YtcgihjpnemnkeaaW.PrintMore
attribute [local go_sem] max2_int min2_int max_two min_two max_three min_three max_four min_four   -- for this text's walks alone
set_option linter.unusedVariables false
set_option linter.unusedSimpArgs false

-- NOT PRINTED: function 36 (api_Extent_36)

-- NOT PRINTED: function 46 (api_Extent_46)

-- NOT PRINTED: function 62 (api_Extent_62)

-- NOT PRINTED: function 51 (api_Extent_51)

-- NOT PRINTED: function 47 (api_Extent_47)

-- NOT PRINTED: function 38 (api_Extent_38)

-- ROUNDS MAKES
-- MAKES
/-- The cells of a list of extents. -/
def encE (x : S33) : List Value := [.int .i64 x.f0, .int .i64 x.f1, .int .i64 x.f2]
theorem encE_len (l : List S33) : (l.flatMap encE).length = l.length * 3 := by
 induction l with
 | nil => rfl
 | cons x l ih => simp only [List.flatMap_cons, List.length_append, ih, encE, List.length_cons, List.length_nil]; omega
theorem encE_one (l : List S33) : ∀ v ∈ l.flatMap encE, v.oneCell' = true := by
 intro v hv
 obtain ⟨x, _, hx⟩ := List.mem_flatMap.1 hv
 simp [encE] at hx
 rcases hx with rfl | rfl | rfl <;> rfl
theorem encE_take (l : List S33) (i : Nat) : (l.flatMap encE).take (i * 3) = (l.take i).flatMap encE := by
 induction l generalizing i with
 | nil => simp
 | cons x l ih =>
  cases i with
  | zero => simp
  | succ i => rw [List.flatMap_cons, show (i + 1) * 3 = (encE x).length + i * 3 by simp [encE]; omega, List.take_length_add_append, ih]; rfl
theorem encE_drop (l : List S33) (i : Nat) : (l.flatMap encE).drop (i * 3) = (l.drop i).flatMap encE := by
 induction l generalizing i with
 | nil => simp
 | cons x l ih =>
  cases i with
  | zero => simp
  | succ i => rw [List.flatMap_cons, show (i + 1) * 3 = (encE x).length + i * 3 by simp [encE]; omega, List.drop_length_add_append, ih]; rfl
theorem reps_enc {w : World} {b : Nat} {ok : Nat → Prop} : ∀ {ps : List S33} {cs : List Value}, Reps (k33.M w b ok) 3 ps cs → cs = ps.flatMap encE
 | [], cs, h => by have := h.1; simp at this; simpa using this
 | p :: ps, cs, h => by
  have h0 := h.2 0 p rfl
  have h0' := k33_openM h0
  have hl := h.1
  simp only [List.length_cons] at hl
  have hd : Reps (k33.M w b ok) 3 ps (cs.drop 3) := ⟨by rw [List.length_drop]; omega, fun j q hq => by
   have := h.2 (j + 1) q hq
   rw [List.drop_drop, show 3 + j * 3 = (j + 1) * 3 by omega]
   exact this⟩
  have ih := reps_enc hd
  rw [List.flatMap_cons, ← ih]
  simp only [Nat.zero_mul, List.drop_zero] at h0'
  have := List.take_append_drop 3 cs
  rw [h0'] at this
  exact this.symm
theorem enc_reps {w : World} {b : Nat} {ok : Nat → Prop} (ps : List S33) : Reps (k33.M w b ok) 3 ps (ps.flatMap encE) := by
 refine ⟨encE_len ps, fun j p hp => ?_⟩
 have hj := (List.getElem?_eq_some_iff.1 hp).1
 rw [encE_drop, List.drop_eq_getElem_cons hj, List.flatMap_cons, show 3 = (encE ps[j]).length by rfl, List.take_left]
 have hpj : ps[j] = p := (List.getElem?_eq_some_iff.1 hp).2
 rw [hpj]
 exact k33_mkM w b ok p
/-- Where an extent is put: ahead of the first one that begins behind it. -/
def posE (X : Int) : List S33 → Nat
 | [] => 0
 | x :: l => if X < x.f0 then 0 else posE X l + 1
theorem posE_le (X : Int) : ∀ l : List S33, posE X l ≤ l.length
 | [] => Nat.le_refl _
 | x :: l => by
  have := posE_le X l
  simp only [posE, List.length_cons]
  split <;> omega
theorem idx_pos (X : Int) : ∀ (l : List S33) (k : Nat), YtcgihjpnemnkeaaIns.idxB X (l.map fun x => (x.f0, x.f1, x.f2)) k = if posE X l < l.length then ((k + posE X l : Nat) : Int) else -1
 | [], k => rfl
 | x :: l, k => by
  simp only [List.map_cons, YtcgihjpnemnkeaaIns.idxB]
  by_cases h : X < x.f0
  ·
   have e : posE X (x :: l) = 0 := by simp only [posE]; rw [if_pos h]
   rw [if_pos h, e, if_pos (by simp)]
   rfl
  ·
   have e : posE X (x :: l) = posE X l + 1 := by simp only [posE]; rw [if_neg h]
   rw [if_neg h, e, idx_pos X l (k + 1)]
   by_cases h2 : posE X l < l.length
   ·
    rw [if_pos h2, if_pos (by simpa using h2)]
    congr 1; omega
   ·
    rw [if_neg h2, if_neg (by simpa using h2)]
def insE (X : Int) (l : List S33) (x : S33) : List S33 := l.take (posE X l) ++ [x] ++ l.drop (posE X l)
theorem insE_len (X : Int) (l : List S33) (x : S33) : (insE X l x).length = l.length + 1 := by
 have := posE_le X l
 simp [insE]; omega

def extent_Put.f (k : Nat) (l0 : List (S33)) (a1_0 : Int) (a1_1 : Int) (a1_2 : Int) : Option ((List (S33)) × (List (S33)) × Int) :=
 (extent_proper.f a1_0 a1_1 a1_2).bind fun t => if t = true then (extent_Cut.f k l0 a1_0 a1_1).bind fun r => if r.2.2 = 0 then (if r.1.length ≤ 1000000000 then (extent_Join.f k (insE a1_0 r.1 ⟨a1_0, a1_1, a1_2⟩)).bind fun q => some (q.1, r.2.1, q.2) else none) else some ([], [], r.2.2) else some ([], [], 1)
theorem extent_Put.mono : ∀ a0 a1 a2 a3 k, LeO (extent_Put.f k a0 a1 a2 a3) (extent_Put.f (k + 1) a0 a1 a2 a3) := by
 intro l a b c k r h
 unfold extent_Put.f at h ⊢
 obtain ⟨t, ht, h⟩ := Option.bind_eq_some_iff.1 h
 rw [ht]
 simp only [Option.bind_some]
 by_cases h1 : t = true
 ·
  rw [if_pos h1] at h ⊢
  obtain ⟨q, hq, h⟩ := Option.bind_eq_some_iff.1 h
  rw [extent_Cut.mono l a b k q hq]
  simp only [Option.bind_some]
  by_cases h2 : q.2.2 = 0
  ·
   rw [if_pos h2] at h ⊢
   by_cases h3 : q.1.length ≤ 1000000000
   ·
    rw [if_pos h3] at h ⊢
    obtain ⟨z, hz, h⟩ := Option.bind_eq_some_iff.1 h
    rw [extent_Join.mono _ k z hz]
    exact h
   ·
    rw [if_neg h3] at h
    cases h
  ·
   rw [if_neg h2] at h ⊢
   exact h
 ·
  rw [if_neg h1] at h ⊢
  exact h
theorem c_of_row {w : World} {A : Option Addr} {c : Nat} {l : List S33} {base : Nat} {ok : Nat → Prop} (h : Kd.R k33 33 w base ok (.slice A l.length c) l) : ∀ j (hj : j < (l.map fun x => (x.f0, x.f1, x.f2)).length), ∃ g, A = some ⟨g, 0, none⟩ ∧ g < w.heap.size ∧ w.cell? ⟨g, j * 3, none⟩ = some (.int .i64 ((l.map fun x => (x.f0, x.f1, x.f2))[j]).1) ∧ w.cell? ⟨g, j * 3 + 1, none⟩ = some (.int .i64 ((l.map fun x => (x.f0, x.f1, x.f2))[j]).2.1) ∧ w.cell? ⟨g, j * 3 + 2, none⟩ = some (.int .i64 ((l.map fun x => (x.f0, x.f1, x.f2))[j]).2.2) := by
 intro j hj
 have hjl : j < l.length := by simpa using hj
 obtain ⟨g, cap, he, _, hg, _⟩ := Kd.R_form h (by omega)
 injection he with hA _ _
 subst hA
 obtain ⟨ad, e, c0, c1, c2⟩ := at_T33 (Kd.R_reads' h).2.2 (j : Int) (by omega) (by omega)
 injection e with e
 subst e
 have hr : rd_T33 l (j : Int) = l[j] := by unfold rd_T33; rw [List.getD_eq_getElem?_getD, show (j : Int).toNat = j from by omega, List.getElem?_eq_getElem hjl]; rfl
 rw [hr] at c0 c1 c2
 have ha : (⟨g, 0, none⟩ : Addr).add ((j : Int).toNat * 3) = ⟨g, j * 3, none⟩ := by rw [show (j : Int).toNat = j from by omega]; unfold Addr.add; split <;> simp_all
 rw [ha] at c0 c1 c2
 exact ⟨g, rfl, hg, by simpa using c0, by simpa using c1, by simpa using c2⟩

set_option maxHeartbeats 4000000 in
set_option maxRecDepth 100000 in
theorem extent_Put.calls (k : Nat) (A0 : Option Addr) (c0 : Nat) (l0 : List (S33)) (a1_0 : Int) (a1_1 : Int) (a1_2 : Int) (r1 : List (S33)) (r2 : List (S33)) (r3 : Int) (w : World) (hr0 : Kd.C k33 w A0 l0.length l0) (hc0 : l0.length ≤ c0) (h : extent_Put.f k l0 a1_0 a1_1 a1_2 = some (r1, r2, r3)) :
  Calls Try.prog 24 #[.slice A0 l0.length c0, .agg #[.int .i64 a1_0, .int .i64 a1_1, .int .i64 a1_2]] w fun e w' => ∃ v0_ v1_ : Value, e = .returned (.tuple #[v0_, v1_, .int .i64 r3]) ∧ Kd.R k33 33 w' w.heap.size (fun k_ => some k_ ≠ (v1_ : Value).ownBlock) v0_ r1 ∧ Kd.R k33 33 w' w.heap.size (fun k_ => some k_ ≠ (v0_ : Value).ownBlock) v1_ r2 ∧ Below w.heap.size w w' := by
 have hu33 := Try.underlying33
 have HR0 := Aside0.mk hr0
 have HC0 := Aside0.mk hc0
 clear hr0 hc0
 unfold extent_Put.f at h
 obtain ⟨t, ht, h⟩ := Option.bind_eq_some_iff.1 h
 have HT := Aside0.mk ht
 clear ht
 obtain ⟨bx, hbx⟩ : ∃ bx, bx = w.heap.size := ⟨_, rfl⟩
 have HBX := Aside0.mk hbx
 clear hbx
 cases t with
 | false =>
  simp only [Bool.false_eq_true, if_false, Option.some.injEq, Prod.mk.injEq] at h
  obtain ⟨rfl, rfl, rfl⟩ := h
  go_enter Try.func24, Try.ntmps24
  go_wp2_with fail
  refine (extent_proper.calls _ _ _ _ _ HT.out).mono ?_
  rintro e w1 ⟨rfl, hb⟩
  have HB := Aside0.mk hb
  clear hb
  go_wp2_with fail
  go_ret3
  exact ⟨_, _, rfl, Kd.R_nil _ _ _ _ _, Kd.R_nil _ _ _ _ _, ((Below.refl _ _).alloc (Nat.le_refl _) _).trans (HB.out.mono (by simp))⟩
 | true =>
  simp only [if_true] at h
  obtain ⟨q, hq, h⟩ := Option.bind_eq_some_iff.1 h
  obtain ⟨q1, q2, q3⟩ := q
  have HQ := Aside0.mk hq
  clear hq
  simp only at h
  have HH := Aside0.mk h
  clear h
  go_enter Try.func24, Try.ntmps24
  go_wp2_with fail
  refine (extent_proper.calls _ _ _ _ _ HT.out).mono ?_
  rintro e w1 ⟨rfl, hb⟩
  have b0 : w1.cell? ⟨w.heap.size, 0, none⟩ = some (.int .i64 a1_0) := (hb.cell (p := ⟨w.heap.size, 0, none⟩) (by simp)).trans (by simp)
  have b1 : w1.cell? ⟨w.heap.size, 1, none⟩ = some (.int .i64 a1_1) := (hb.cell (p := ⟨w.heap.size, 1, none⟩) (by simp)).trans (by simp)
  have b2 : w1.cell? ⟨w.heap.size, 2, none⟩ = some (.int .i64 a1_2) := (hb.cell (p := ⟨w.heap.size, 2, none⟩) (by simp)).trans (by simp)
  have hs1 : w.heap.size < w1.heap.size := by have := hb.size; simp at this; omega
  have HB1 := Aside0.mk (((Below.refl w.heap.size w).alloc (Nat.le_refl _) _).trans (hb.mono (by simp)))
  have HS1 := Aside0.mk hs1
  clear hb hs1
  go_wp2_with fail
  refine (extent_Cut.calls k A0 c0 l0 a1_0 a1_1 q1 q2 q3 _ (Kd.C_below HR0.out HB1.out) HC0.out HQ.out).mono ?_
  rintro e w2 ⟨v0, v1, rfl, ho0, ho1, hb⟩
  have HO0 := Aside0.mk (Kd.R_lower ho0 (Nat.le_of_lt HS1.out))
  have HO1 := Aside0.mk (Kd.R_lower ho1 (Nat.le_of_lt HS1.out))
  have d0 : w2.cell? ⟨w.heap.size, 0, none⟩ = some (.int .i64 a1_0) := (hb.cell (p := ⟨w.heap.size, 0, none⟩) HS1.out).trans b0
  have d1 : w2.cell? ⟨w.heap.size, 1, none⟩ = some (.int .i64 a1_1) := (hb.cell (p := ⟨w.heap.size, 1, none⟩) HS1.out).trans b1
  have d2 : w2.cell? ⟨w.heap.size, 2, none⟩ = some (.int .i64 a1_2) := (hb.cell (p := ⟨w.heap.size, 2, none⟩) HS1.out).trans b2
  have HS2 := Aside0.mk (Nat.lt_of_lt_of_le HS1.out hb.size)
  have HB2 := Aside0.mk (HB1.out.trans (hb.mono (Nat.le_of_lt HS1.out)))
  clear ho0 ho1 hb b0 b1 b2
  have H := HH.out
  clear HH
  by_cases hq3 : q3 = 0
  ·
   subst hq3
   rw [if_pos rfl] at H
   by_cases hlen : q1.length ≤ 1000000000
   ·
    rw [if_pos hlen] at H
    obtain ⟨z, hz, H⟩ := Option.bind_eq_some_iff.1 H
    obtain ⟨z1, z2⟩ := z
    simp only [Option.some.injEq, Prod.mk.injEq] at H
    obtain ⟨rfl, rfl, rfl⟩ := H
    have HZ := Aside0.mk hz
    clear hz
    obtain ⟨A1, e1, he1⟩ := Kd.R_slice HO0.out
    subst he1
    have hidx := YtcgihjpnemnkeaaIns.index_calls A1 e1 w.heap.size a1_0 (q1.map fun x => (x.f0, x.f1, x.f2)) w2 HS2.out d0 (by simpa using hlen) (c_of_row HO0.out)
    rw [List.length_map, idx_pos] at hidx
    have HIX := Aside0.mk hidx
    clear hidx
    go_wp2_with fail
    refine HIX.out.mono ?_
    rintro e w3 ⟨rfl, hb⟩
    have g0 : w3.cell? ⟨w.heap.size, 0, none⟩ = some (.int .i64 a1_0) := (hb.cell (p := ⟨w.heap.size, 0, none⟩) HS2.out).trans d0
    have g1 : w3.cell? ⟨w.heap.size, 1, none⟩ = some (.int .i64 a1_1) := (hb.cell (p := ⟨w.heap.size, 1, none⟩) HS2.out).trans d1
    have g2 : w3.cell? ⟨w.heap.size, 2, none⟩ = some (.int .i64 a1_2) := (hb.cell (p := ⟨w.heap.size, 2, none⟩) HS2.out).trans d2
    have HP0 := Aside0.mk (Kd.R_below HO0.out hb)
    have HP1 := Aside0.mk (Kd.R_below HO1.out hb)
    have HS3 := Aside0.mk (Nat.lt_of_lt_of_le HS2.out hb.size)
    have HB3 := Aside0.mk (HB2.out.trans (hb.mono (Nat.le_of_lt HS2.out)))
    clear hb d0 d1 d2 HO0 HO1 HIX
    by_cases hp : posE a1_0 q1 < q1.length
    ·
     rw [if_pos hp]
     have hp0 : ¬ (((0 + posE a1_0 q1 : Nat) : Int) < 0) := by omega
     have HPP := Aside0.mk hp
     clear hp
     go_wp2_with fail
     obtain ⟨h0, inner, hown, hr⟩ := HP0.out
     have hinner := reps_enc hr
     subst hinner
     have hlt3 : ∀ k_, (Value.slice A1 q1.length e1).ownBlock = some k_ → k_ < w3.heap.size := fun k_ hk => own_lt hown k_ hk
     have HI := YtcgihjpnemnkeaaIns.insert_any w.heap.size q1.length (posE a1_0 q1) w3.heap.size 1 (.slice A1 q1.length e1) (q1.flatMap encE) [.int .i64 a1_0, .int .i64 a1_1, .int .i64 a1_2] (w3.alloc (.cells #[.int .i64 a1_0, .int .i64 a1_1, .int .i64 a1_2] 33)) (Nat.le_of_lt HPP.out) hlen (Nat.le_trans (Nat.le_of_lt HS3.out) (by simp)) (hown.alloc _) (fun e => by have := hlt3 _ e; omega) (by exact YtcgihjpnemnkeaaIns.heap_new w3 _) rfl (by intro v hv; simp at hv; rcases hv with rfl | rfl | rfl <;> rfl) (encE_one q1)
     refine HI.mono ?_
     rintro e w4 ⟨v4, rfl, hown4, hg4⟩
     have hins : (q1.flatMap encE).take ((posE a1_0 q1) * 3) ++ [.int .i64 a1_0, .int .i64 a1_1, .int .i64 a1_2] ++ (q1.flatMap encE).drop ((posE a1_0 q1) * 3) = (insE a1_0 q1 ⟨a1_0, a1_1, a1_2⟩).flatMap encE := by
      rw [encE_take, encE_drop, insE]; simp [encE]
     rw [hins] at hown4
     have hR4 : Kd.R k33 33 w4 w.heap.size (fun _ => True) v4 (insE a1_0 q1 ⟨a1_0, a1_1, a1_2⟩) := ⟨fun _ _ => trivial, _, by rw [insE_len]; exact hown4, enc_reps _⟩
     have hb3 : Below w3.heap.size w3 (w3.alloc (.cells #[.int .i64 a1_0, .int .i64 a1_1, .int .i64 a1_2] 33)) := (Below.refl _ _).alloc (Nat.le_refl _) _
     have HR1 := Aside0.mk (Kd.R_grown (Kd.R_below HP1.out hb3) hg4 (fun _ hk => hk))
     have hb4 : Below w.heap.size w w4 := (HB3.out.trans (hb3.mono (Nat.le_of_lt HS3.out))).grown hg4 (Nat.le_trans (Nat.le_of_lt HS3.out) (by simp)) (fun k_ hk => own_base hown k_ hk)
     obtain ⟨A4, e4, he4, hle4, hC4⟩ := Kd.R_reads hR4
     subst he4
     have HB4 := Aside0.mk hb4
     have HC4 := Aside0.mk hC4
     have HL4 := Aside0.mk hle4
     have HS4 := Aside0.mk (Nat.le_of_lt (Nat.lt_of_lt_of_le HS3.out (Nat.le_trans (by simp) hg4.size)))
     clear hins hown4 hR4 hb3 hb4 hle4 hC4 hg4 HI hlt3 hown hr h0 g0 g1 g2 HP0 HP1
     go_wp2_with fail
     refine (extent_Join.calls k A4 e4 (insE a1_0 q1 ⟨a1_0, a1_1, a1_2⟩) z1 z2 _ HC4.out HL4.out HZ.out).mono ?_
     rintro e w5 ⟨v5, rfl, ho5, hb5⟩
     have HO5 := Aside0.mk ho5
     have HB5 := Aside0.mk hb5
     clear ho5 hb5
     go_wp2_with fail
     go_ret3
     exact ⟨v5, v1, rfl, Kd.R_mono (Kd.R_lower (Kd.R_new' HO5.out (Kd.R_lt HR1.out)) HS4.out) (fun _ hk => hk.2), Kd.R_mono (Kd.R_told (Kd.R_old HR1.out HB5.out) (Kd.R_base HO5.out)) (fun _ hk => hk.1.2), HB4.out.trans (HB5.out.mono HS4.out)⟩
    ·
     rw [if_neg hp]
     have hpe : posE a1_0 q1 = q1.length := by have := posE_le a1_0 q1; omega
     have HPE := Aside0.mk hpe
     clear hp hpe
     go_wp2_with fail
     obtain ⟨h0, inner, hown, hr⟩ := HP0.out
     have hinner := reps_enc hr
     subst hinner
     have hlt3 : ∀ k_, (Value.slice A1 q1.length e1).ownBlock = some k_ → k_ < w3.heap.size := fun k_ hk => own_lt hown k_ hk
     have HI := YtcgihjpnemnkeaaIns.insert_any w.heap.size q1.length q1.length w3.heap.size 1 (.slice A1 q1.length e1) (q1.flatMap encE) [.int .i64 a1_0, .int .i64 a1_1, .int .i64 a1_2] (w3.alloc (.cells #[.int .i64 a1_0, .int .i64 a1_1, .int .i64 a1_2] 33)) (Nat.le_refl _) hlen (Nat.le_trans (Nat.le_of_lt HS3.out) (by simp)) (hown.alloc _) (fun e => by have := hlt3 _ e; omega) (by exact YtcgihjpnemnkeaaIns.heap_new w3 _) rfl (by intro v hv; simp at hv; rcases hv with rfl | rfl | rfl <;> rfl) (encE_one q1)
     refine HI.mono ?_
     rintro e w4 ⟨v4, rfl, hown4, hg4⟩
     have hins : (q1.flatMap encE).take (q1.length * 3) ++ [.int .i64 a1_0, .int .i64 a1_1, .int .i64 a1_2] ++ (q1.flatMap encE).drop (q1.length * 3) = (insE a1_0 q1 ⟨a1_0, a1_1, a1_2⟩).flatMap encE := by
      rw [encE_take, encE_drop, insE, HPE.out]; simp [encE]
     rw [hins] at hown4
     have hR4 : Kd.R k33 33 w4 w.heap.size (fun _ => True) v4 (insE a1_0 q1 ⟨a1_0, a1_1, a1_2⟩) := ⟨fun _ _ => trivial, _, by rw [insE_len]; exact hown4, enc_reps _⟩
     have hb3 : Below w3.heap.size w3 (w3.alloc (.cells #[.int .i64 a1_0, .int .i64 a1_1, .int .i64 a1_2] 33)) := (Below.refl _ _).alloc (Nat.le_refl _) _
     have HR1 := Aside0.mk (Kd.R_grown (Kd.R_below HP1.out hb3) hg4 (fun _ hk => hk))
     have hb4 : Below w.heap.size w w4 := (HB3.out.trans (hb3.mono (Nat.le_of_lt HS3.out))).grown hg4 (Nat.le_trans (Nat.le_of_lt HS3.out) (by simp)) (fun k_ hk => own_base hown k_ hk)
     obtain ⟨A4, e4, he4, hle4, hC4⟩ := Kd.R_reads hR4
     subst he4
     have HB4 := Aside0.mk hb4
     have HC4 := Aside0.mk hC4
     have HL4 := Aside0.mk hle4
     have HS4 := Aside0.mk (Nat.le_of_lt (Nat.lt_of_lt_of_le HS3.out (Nat.le_trans (by simp) hg4.size)))
     clear hins hown4 hR4 hb3 hb4 hle4 hC4 hg4 HI hlt3 hown hr h0 g0 g1 g2 HP0 HP1
     go_wp2_with fail
     refine (extent_Join.calls k A4 e4 (insE a1_0 q1 ⟨a1_0, a1_1, a1_2⟩) z1 z2 _ HC4.out HL4.out HZ.out).mono ?_
     rintro e w5 ⟨v5, rfl, ho5, hb5⟩
     have HO5 := Aside0.mk ho5
     have HB5 := Aside0.mk hb5
     clear ho5 hb5
     go_wp2_with fail
     go_ret3
     exact ⟨v5, v1, rfl, Kd.R_mono (Kd.R_lower (Kd.R_new' HO5.out (Kd.R_lt HR1.out)) HS4.out) (fun _ hk => hk.2), Kd.R_mono (Kd.R_told (Kd.R_old HR1.out HB5.out) (Kd.R_base HO5.out)) (fun _ hk => hk.1.2), HB4.out.trans (HB5.out.mono HS4.out)⟩
   ·
    rw [if_neg hlen] at H
    cases H
  ·
   rw [if_neg hq3] at H
   simp only [Option.some.injEq, Prod.mk.injEq] at H
   obtain ⟨rfl, rfl, rfl⟩ := H
   have HQ3 := Aside0.mk hq3
   have hq3' : (q3 != 0) = true := by simpa using hq3
   clear hq3
   go_wp2_with fail
   go_ret3
   exact ⟨_, _, rfl, Kd.R_nil _ _ _ _ _, Kd.R_nil _ _ _ _ _, HB2.out⟩

/-! ### tegulalaw32_ExtentRestores: function 8 -/
mutual
def tegulalaw32_ExtentRestores.j0 : Nat → List (S33) → Bool → Int → Int → Int → Option (Bool)
 | 0, _, _, _, _, _ => none
 | k + 1, x0, x28, x221000, x221001, x221002 => if x28 = true then (some true) else ((tegularef32_Join.f k x0).bind fun bt224 => ((extent_Put.f k x0 x221000 x221001 x221002).bind fun bt228 => ((extent_Cut.f k bt228.1 x221000 x221001).bind fun bt235 => (if bt228.2.2 = 0 then (if bt235.2.2 = 0 then ((tegularef32_Same.f k bt235.2.1 (([(⟨x221000, x221001, x221002⟩ : S33)] : List (S33)))).bind fun t245 => (tegulalaw32_ExtentRestores.j1 k bt224.1 bt235.1 bt228.2.1 (!t245))) else (tegulalaw32_ExtentRestores.j1 k bt224.1 bt235.1 bt228.2.1 true)) else (tegulalaw32_ExtentRestores.j1 k bt224.1 bt235.1 bt228.2.1 true)))))
def tegulalaw32_ExtentRestores.j1 : Nat → List (S33) → List (S33) → List (S33) → Bool → Option (Bool)
 | 0, _, _, _, _ => none
 | k + 1, x5, x7, x8, x63 => if x63 = true then (some false) else (tegulalaw32_ExtentRestores.l0 k x5 x7 x8 0)
def tegulalaw32_ExtentRestores.l0 : Nat → List (S33) → List (S33) → List (S33) → Int → Option (Bool)
 | 0, _, _, _, _ => none
 | k + 1, x5, x7, x8, x12 => if x12 < (x8.length : Int) then (if 0 ≤ x12 then ((extent_Put.f k x7 ((rd_T33 x8 x12).f0) ((rd_T33 x8 x12).f1) ((rd_T33 x8 x12).f2)).bind fun bt247 => (if bt247.2.2 = 0 then (tegulalaw32_ExtentRestores.l0 k x5 bt247.1 x8 (wrap64 (x12 + 1))) else (some false))) else (none)) else ((tegularef32_Same.f k x7 x5).bind fun t254 => (some t254))
end
def tegulalaw32_ExtentRestores.f (k : Nat) (l0 : List (S33)) (a1_0 : Int) (a1_1 : Int) (a1_2 : Int) : Option (Bool) := (tegulalaw32_awake.f k).bind fun t221 => (if t221 = true then (if (l0.length : Int) > 20 then (tegulalaw32_ExtentRestores.j0 k l0 true a1_0 a1_1 a1_2) else ((tegularef32_Valid.f k l0).bind fun t222 => (if t222 = true then ((tegularef32_One.f a1_0 a1_1 a1_2).bind fun t223 => (tegulalaw32_ExtentRestores.j0 k l0 (!t223) a1_0 a1_1 a1_2)) else (tegulalaw32_ExtentRestores.j0 k l0 true a1_0 a1_1 a1_2)))) else (some false))
theorem tegulalaw32_ExtentRestores.mono_l : ∀ k, (∀ y0 y1 y2 y3 y4, LeO (tegulalaw32_ExtentRestores.j0 k y0 y1 y2 y3 y4) (tegulalaw32_ExtentRestores.j0 (k + 1) y0 y1 y2 y3 y4)) ∧ (∀ y0 y1 y2 y3, LeO (tegulalaw32_ExtentRestores.j1 k y0 y1 y2 y3) (tegulalaw32_ExtentRestores.j1 (k + 1) y0 y1 y2 y3)) ∧ (∀ y0 y1 y2 y3, LeO (tegulalaw32_ExtentRestores.l0 k y0 y1 y2 y3) (tegulalaw32_ExtentRestores.l0 (k + 1) y0 y1 y2 y3))
 | 0 => ⟨fun _ _ _ _ _ r h => by simp [tegulalaw32_ExtentRestores.j0] at h, fun _ _ _ _ r h => by simp [tegulalaw32_ExtentRestores.j1] at h, fun _ _ _ _ r h => by simp [tegulalaw32_ExtentRestores.l0] at h⟩
 | k + 1 => by
  obtain ⟨ih0, ih1, ih2⟩ := tegulalaw32_ExtentRestores.mono_l k
  refine ⟨?_, ?_, ?_⟩
  ·
   intro y0 y1 y2 y3 y4
   unfold tegulalaw32_ExtentRestores.j0
   repeat' first
   | (with_reducible exact ih0 _ _ _ _ _)
   | (with_reducible exact ih1 _ _ _ _)
   | (with_reducible exact ih2 _ _ _ _)
   | (with_reducible exact extent_Cut.mono _ _ _ _)
   | (with_reducible exact extent_Put.mono _ _ _ _ _)
   | (with_reducible exact tegulalaw32_awake.mono _)
   | (with_reducible exact tegularef32_Join.mono _ _)
   | (with_reducible exact tegularef32_Same.mono _ _ _)
   | (with_reducible exact tegularef32_Valid.mono _ _)
   | (with_reducible exact LeO.refl _)
   | (with_reducible exact LeO.none _)
   | (with_reducible refine LeO.ite ?_ ?_)
   | (with_reducible refine LeO.bind ?_ (fun _ => ?_))
   | exact ih0 _ _ _ _ _
   | exact ih1 _ _ _ _
   | exact ih2 _ _ _ _
   | exact extent_Cut.mono _ _ _ _
   | exact extent_Put.mono _ _ _ _ _
   | exact tegulalaw32_awake.mono _
   | exact tegularef32_Join.mono _ _
   | exact tegularef32_Same.mono _ _ _
   | exact tegularef32_Valid.mono _ _
   | exact LeO.none _
   | refine LeO.ite ?_ ?_
   | refine LeO.bind ?_ (fun _ => ?_)
  ·
   intro y0 y1 y2 y3
   unfold tegulalaw32_ExtentRestores.j1
   repeat' first
   | (with_reducible exact ih0 _ _ _ _ _)
   | (with_reducible exact ih1 _ _ _ _)
   | (with_reducible exact ih2 _ _ _ _)
   | (with_reducible exact extent_Cut.mono _ _ _ _)
   | (with_reducible exact extent_Put.mono _ _ _ _ _)
   | (with_reducible exact tegulalaw32_awake.mono _)
   | (with_reducible exact tegularef32_Join.mono _ _)
   | (with_reducible exact tegularef32_Same.mono _ _ _)
   | (with_reducible exact tegularef32_Valid.mono _ _)
   | (with_reducible exact LeO.refl _)
   | (with_reducible exact LeO.none _)
   | (with_reducible refine LeO.ite ?_ ?_)
   | (with_reducible refine LeO.bind ?_ (fun _ => ?_))
   | exact ih0 _ _ _ _ _
   | exact ih1 _ _ _ _
   | exact ih2 _ _ _ _
   | exact extent_Cut.mono _ _ _ _
   | exact extent_Put.mono _ _ _ _ _
   | exact tegulalaw32_awake.mono _
   | exact tegularef32_Join.mono _ _
   | exact tegularef32_Same.mono _ _ _
   | exact tegularef32_Valid.mono _ _
   | exact LeO.none _
   | refine LeO.ite ?_ ?_
   | refine LeO.bind ?_ (fun _ => ?_)
  ·
   intro y0 y1 y2 y3
   unfold tegulalaw32_ExtentRestores.l0
   repeat' first
   | (with_reducible exact ih0 _ _ _ _ _)
   | (with_reducible exact ih1 _ _ _ _)
   | (with_reducible exact ih2 _ _ _ _)
   | (with_reducible exact extent_Cut.mono _ _ _ _)
   | (with_reducible exact extent_Put.mono _ _ _ _ _)
   | (with_reducible exact tegulalaw32_awake.mono _)
   | (with_reducible exact tegularef32_Join.mono _ _)
   | (with_reducible exact tegularef32_Same.mono _ _ _)
   | (with_reducible exact tegularef32_Valid.mono _ _)
   | (with_reducible exact LeO.refl _)
   | (with_reducible exact LeO.none _)
   | (with_reducible refine LeO.ite ?_ ?_)
   | (with_reducible refine LeO.bind ?_ (fun _ => ?_))
   | exact ih0 _ _ _ _ _
   | exact ih1 _ _ _ _
   | exact ih2 _ _ _ _
   | exact extent_Cut.mono _ _ _ _
   | exact extent_Put.mono _ _ _ _ _
   | exact tegulalaw32_awake.mono _
   | exact tegularef32_Join.mono _ _
   | exact tegularef32_Same.mono _ _ _
   | exact tegularef32_Valid.mono _ _
   | exact LeO.none _
   | refine LeO.ite ?_ ?_
   | refine LeO.bind ?_ (fun _ => ?_)
theorem tegulalaw32_ExtentRestores.mono : ∀ a0 a1 a2 a3 k, LeO (tegulalaw32_ExtentRestores.f k a0 a1 a2 a3) (tegulalaw32_ExtentRestores.f (k + 1) a0 a1 a2 a3) := by
 intro a0 a1 a2 a3 k
 obtain ⟨ih0, ih1, ih2⟩ := tegulalaw32_ExtentRestores.mono_l k
 unfold tegulalaw32_ExtentRestores.f
 repeat' first
   | (with_reducible exact ih0 _ _ _ _ _)
   | (with_reducible exact ih1 _ _ _ _)
   | (with_reducible exact ih2 _ _ _ _)
   | (with_reducible exact extent_Cut.mono _ _ _ _)
   | (with_reducible exact extent_Put.mono _ _ _ _ _)
   | (with_reducible exact tegulalaw32_awake.mono _)
   | (with_reducible exact tegularef32_Join.mono _ _)
   | (with_reducible exact tegularef32_Same.mono _ _ _)
   | (with_reducible exact tegularef32_Valid.mono _ _)
   | (with_reducible exact LeO.refl _)
   | (with_reducible exact LeO.none _)
   | (with_reducible refine LeO.ite ?_ ?_)
   | (with_reducible refine LeO.bind ?_ (fun _ => ?_))
   | exact ih0 _ _ _ _ _
   | exact ih1 _ _ _ _
   | exact ih2 _ _ _ _
   | exact extent_Cut.mono _ _ _ _
   | exact extent_Put.mono _ _ _ _ _
   | exact tegulalaw32_awake.mono _
   | exact tegularef32_Join.mono _ _
   | exact tegularef32_Same.mono _ _ _
   | exact tegularef32_Valid.mono _ _
   | exact LeO.none _
   | refine LeO.ite ?_ ?_
   | refine LeO.bind ?_ (fun _ => ?_)
set_option maxHeartbeats 8000000 in
set_option maxRecDepth 100000 in
theorem tegulalaw32_ExtentRestores.calls (k : Nat) (A0 : Option Addr) (c0 : Nat) (l0 : List (S33)) (a1_0 : Int) (a1_1 : Int) (a1_2 : Int) (r : Bool) (w : World) (hr0 : Kd.C k33 w A0 l0.length l0) (hc0 : l0.length ≤ c0) (h : tegulalaw32_ExtentRestores.f k l0 a1_0 a1_1 a1_2 = some r) :
  Calls Try.prog 8 #[.slice A0 l0.length c0, .agg #[.int .i64 a1_0, .int .i64 a1_1, .int .i64 a1_2]] w fun e w' => e = .returned (.bool r) ∧ Below w.heap.size w w' := by
 have hu33 := Try.underlying33
 have HR0 := Aside0.mk hr0
 have HC0 := Aside0.mk hc0
 clear hr0 hc0
 have HB := Aside0.mk (Below.refl w.heap.size w)
 have H : ((tegulalaw32_awake.f k).bind fun t221 => (if t221 = true then (if (l0.length : Int) > 20 then (tegulalaw32_ExtentRestores.j0 k l0 true a1_0 a1_1 a1_2) else ((tegularef32_Valid.f k l0).bind fun t222 => (if t222 = true then ((tegularef32_One.f a1_0 a1_1 a1_2).bind fun t223 => (tegulalaw32_ExtentRestores.j0 k l0 (!t223) a1_0 a1_1 a1_2)) else (tegulalaw32_ExtentRestores.j0 k l0 true a1_0 a1_1 a1_2)))) else (some false))) = some r := h
 clear h
 replace H := Option.bind_eq_some_iff.mp H
 obtain ⟨t221, A30, H⟩ := H
 replace H : (if t221 = true then (if (l0.length : Int) > 20 then (tegulalaw32_ExtentRestores.j0 k l0 true a1_0 a1_1 a1_2) else ((tegularef32_Valid.f k l0).bind fun t222 => (if t222 = true then ((tegularef32_One.f a1_0 a1_1 a1_2).bind fun t223 => (tegulalaw32_ExtentRestores.j0 k l0 (!t223) a1_0 a1_1 a1_2)) else (tegulalaw32_ExtentRestores.j0 k l0 true a1_0 a1_1 a1_2)))) else (some false)) = some r := H
 have A3 := Aside0.mk A30
 clear A30
 by_cases c4 : t221 = true
 ·
  subst c4
  have H1 : (if (l0.length : Int) > 20 then (tegulalaw32_ExtentRestores.j0 k l0 true a1_0 a1_1 a1_2) else ((tegularef32_Valid.f k l0).bind fun t222 => (if t222 = true then ((tegularef32_One.f a1_0 a1_1 a1_2).bind fun t223 => (tegulalaw32_ExtentRestores.j0 k l0 (!t223) a1_0 a1_1 a1_2)) else (tegulalaw32_ExtentRestores.j0 k l0 true a1_0 a1_1 a1_2)))) = some r := by rw [if_pos rfl] at H; exact H
  clear H
  have H := H1
  clear H1
  have HC5 := Aside0.mk H
  clear H
  go_enter Try.func8, Try.ntmps8
  go_upto_region 3 with (first | ((with_reducible refine gate_dst (N := 3) rfl ?_); (try (refine gate_guard (by rfl) ?_; dsimp only)); refine box_event ?hg (N := 3) ?hd (cs := #[.int .i64 a1_0, .int .i64 a1_1, .int .i64 a1_2]) (t := 33) ?hr ?_; (case hd => rfl); (case hg => rfl); (case hr => first | (go_simp; done) | (go_simp; rfl)); intro gb220 hg w6 hbox hb; have n0_ := Aside0.mk (below_step (by repeat (first | (with_reducible first | exact HB.out | apply below_alloc | apply pw_below_drewN | apply below_drew1) | exact HB.out)) hb); have n1_ := Aside0.mk (hbox); have n2_ := Aside0.mk ((by rw [hg]; exact (below_size (by repeat (first | (with_reducible first | exact HB.out | apply below_alloc | apply pw_below_drewN | apply below_drew1) | exact HB.out))) : w.heap.size ≤ gb220)); have n3_ := Aside0.mk ((by rw [hg]; exact (below_size (by repeat (first | (with_reducible first | exact HB.out | apply below_alloc | apply pw_below_drewN | apply below_drew1) | exact HB.out))) : w.heap.size ≤ gb220)); clear HB; have HB := n0_; have BK220 := n1_; have GW220 := n2_; have GE220 := n3_; clear n0_ n1_ n2_ n3_; clear hb hbox hg) | ((with_reducible refine gate_callee (f := 11) rfl ?_); refine goesL_ (some 14) rfl rfl Try.func11 (by kernel_rfl) rfl #[] rfl (by (try simp only [List.map_toArray, List.map_cons, List.map_nil]); first | done | rfl | (simp only [List.length_drop, List.length_take]; rfl)) ?_; (with_reducible refine (tegulalaw32_awake.calls k  true _ A3.out).mono ?_); rintro e w7 ⟨rfl, hb⟩; refine ⟨_, rfl, ?_⟩; have n0_ := Aside0.mk (blk_below (g := gb220) (o := .cells #[.int .i64 a1_0, .int .i64 a1_1, .int .i64 a1_2] 33 (0, 0)) (by (with_reducible repeat (first | refine blk_drewN ?_ _ | refine blk_drew ?_ | refine blk_alloc ?_ _)); exact BK220.out) hb); have n1_ := Aside0.mk (below_step (by repeat (first | (with_reducible first | exact HB.out | apply below_alloc | apply pw_below_drewN | apply below_drew1 | refine below_set ?_ GE220.out) | exact HB.out)) hb); clear BK220; clear HB; have BK220 := n0_; have HB := n1_; clear n0_ n1_; (try clear hb); (try clear hb2); (try clear hk); (try clear hi)))
  (try simp only [Act.put, List.setIfInBounds_toArray, List.set_cons_zero, List.set_cons_succ])
  go_cut [28] (fun v28 wc => ∃ (kq : Nat) (x28_4 : Bool), v28 = .bool x28_4 ∧ Aside0 (tegulalaw32_ExtentRestores.j0 kq l0 x28_4 a1_0 a1_1 a1_2 = some r) ∧ Aside0 (kq ≤ k) ∧ Aside0 (wc.heap[gb220]? = some (.cells #[.int .i64 a1_0, .int .i64 a1_1, .int .i64 a1_2] 33 (0, 0))) ∧ Aside0 (Below w.heap.size w wc))
  case first =>
   have H := HC5.out
   clear HC5
   by_cases c8 : (l0.length : Int) > 20
   ·
    rw [if_pos c8] at H
    have c8b0 : decide (20 < (l0.length : Int)) = true := decide_eq_true c8
    have c8b1 : decide (20 < l0.length) = true := decide_eq_true (by omega)
    clear c8
    (first | rw [c8b0] | (simp only [i64_w, i32_w]; rw [c8b0]) | skip)
    have H' := Aside0.mk H
    clear H
    go_wp2
    go_meet
    case rel => exact ⟨_, (true), (by first | rfl | (simp; done) | (simp [*]; done)), H', ⟨by first | omega | exact Nat.le_refl _⟩, ⟨by (with_reducible repeat (first | refine blk_drewN ?_ _ | refine blk_drew ?_ | refine blk_alloc ?_ _)); exact BK220.out⟩, ⟨by repeat (first | (with_reducible first | exact HB.out | apply below_alloc | apply pw_below_drewN | apply below_drew1 | refine below_set ?_ GE220.out) | exact HB.out)⟩⟩
   ·
    rw [if_neg c8] at H
    have c8b0 : decide (20 < (l0.length : Int)) = false := decide_eq_false c8
    have c8b1 : decide (20 < l0.length) = false := decide_eq_false (by omega)
    clear c8
    (first | rw [c8b0] | (simp only [i64_w, i32_w]; rw [c8b0]) | skip)
    replace H := Option.bind_eq_some_iff.mp H
    obtain ⟨t222, A90, H⟩ := H
    replace H : (if t222 = true then ((tegularef32_One.f a1_0 a1_1 a1_2).bind fun t223 => (tegulalaw32_ExtentRestores.j0 k l0 (!t223) a1_0 a1_1 a1_2)) else (tegulalaw32_ExtentRestores.j0 k l0 true a1_0 a1_1 a1_2)) = some r := H
    have A9 := Aside0.mk A90
    clear A90
    by_cases c10 : t222 = true
    ·
     subst c10
     have H1 : ((tegularef32_One.f a1_0 a1_1 a1_2).bind fun t223 => (tegulalaw32_ExtentRestores.j0 k l0 (!t223) a1_0 a1_1 a1_2)) = some r := by rw [if_pos rfl] at H; exact H
     clear H
     have H := H1
     clear H1
     replace H := Option.bind_eq_some_iff.mp H
     obtain ⟨t223, A110, H⟩ := H
     replace H : (tegulalaw32_ExtentRestores.j0 k l0 (!t223) a1_0 a1_1 a1_2) = some r := H
     have A11 := Aside0.mk A110
     clear A110
     have H' := Aside0.mk H
     clear H
     go_wp2_with (first | (go_at_call 16; (with_reducible refine (tegularef32_Valid.calls k _ _ l0 true _ ?side1 ?side2 A9.out).mono ?_); (case side1 => repeat (first | exact (Kd.C_below HR0.out HB.out) | (with_reducible refine Kd.C_alloc ?_ _) | (with_reducible refine Kd.C_drewN ?_ _) | (with_reducible refine Kd.C_drew ?_))); (case side2 => exact HC0.out); rintro e w12 ⟨rfl, hb⟩; have n0_ := Aside0.mk (blk_below (g := gb220) (o := .cells #[.int .i64 a1_0, .int .i64 a1_1, .int .i64 a1_2] 33 (0, 0)) (by (with_reducible repeat (first | refine blk_drewN ?_ _ | refine blk_drew ?_ | refine blk_alloc ?_ _)); exact BK220.out) hb); have n1_ := Aside0.mk (below_step (by repeat (first | (with_reducible first | exact HB.out | apply below_alloc | apply pw_below_drewN | apply below_drew1 | refine below_set ?_ GE220.out) | exact HB.out)) hb); clear BK220; clear HB; have BK220 := n0_; have HB := n1_; clear n0_ n1_; (try clear hb); (try clear hb2); (try clear hk); (try clear hi); have hcz13_0 : w12.cell? ⟨gb220, 0, none⟩ = some (.int .i64 a1_0) := (blk_cell BK220.out 0).trans rfl; have hcz13_1 : w12.cell? ⟨gb220, 1, none⟩ = some (.int .i64 a1_1) := (blk_cell BK220.out 1).trans rfl; have hcz13_2 : w12.cell? ⟨gb220, 2, none⟩ = some (.int .i64 a1_2) := (blk_cell BK220.out 2).trans rfl; have hfz13_0 := blk_frozen BK220.out 0; have hfz13_1 := blk_frozen BK220.out 1; have hfz13_2 := blk_frozen BK220.out 2) | (go_at_call 26; (with_reducible refine (tegularef32_One.calls a1_0 a1_1 a1_2 t223 _ A11.out).mono ?_); rintro e w14 ⟨rfl, hb⟩; have n0_ := Aside0.mk (blk_below (g := gb220) (o := .cells #[.int .i64 a1_0, .int .i64 a1_1, .int .i64 a1_2] 33 (0, 0)) (by (with_reducible repeat (first | refine blk_drewN ?_ _ | refine blk_drew ?_ | refine blk_alloc ?_ _)); exact BK220.out) hb); have n1_ := Aside0.mk (below_step (by repeat (first | (with_reducible first | exact HB.out | apply below_alloc | apply pw_below_drewN | apply below_drew1 | refine below_set ?_ GE220.out) | exact HB.out)) hb); clear BK220; clear HB; have BK220 := n0_; have HB := n1_; clear n0_ n1_; (try clear hb); (try clear hb2); (try clear hk); (try clear hi)))
     go_meet
     case rel => exact ⟨_, (!t223), (by first | rfl | (simp; done) | (simp [*]; done)), H', ⟨by first | omega | exact Nat.le_refl _⟩, ⟨by (with_reducible repeat (first | refine blk_drewN ?_ _ | refine blk_drew ?_ | refine blk_alloc ?_ _)); exact BK220.out⟩, ⟨by repeat (first | (with_reducible first | exact HB.out | apply below_alloc | apply pw_below_drewN | apply below_drew1 | refine below_set ?_ GE220.out) | exact HB.out)⟩⟩
    ·
     replace c10 := Bool.eq_false_iff.mpr c10
     subst c10
     have H1 : (tegulalaw32_ExtentRestores.j0 k l0 true a1_0 a1_1 a1_2) = some r := by rw [if_neg (show ¬ (false = true) by decide)] at H; exact H
     clear H
     have H := H1
     clear H1
     have H' := Aside0.mk H
     clear H
     go_wp2_with (first | (go_at_call 16; (with_reducible refine (tegularef32_Valid.calls k _ _ l0 false _ ?side1 ?side2 A9.out).mono ?_); (case side1 => repeat (first | exact (Kd.C_below HR0.out HB.out) | (with_reducible refine Kd.C_alloc ?_ _) | (with_reducible refine Kd.C_drewN ?_ _) | (with_reducible refine Kd.C_drew ?_))); (case side2 => exact HC0.out); rintro e w15 ⟨rfl, hb⟩; have n0_ := Aside0.mk (blk_below (g := gb220) (o := .cells #[.int .i64 a1_0, .int .i64 a1_1, .int .i64 a1_2] 33 (0, 0)) (by (with_reducible repeat (first | refine blk_drewN ?_ _ | refine blk_drew ?_ | refine blk_alloc ?_ _)); exact BK220.out) hb); have n1_ := Aside0.mk (below_step (by repeat (first | (with_reducible first | exact HB.out | apply below_alloc | apply pw_below_drewN | apply below_drew1 | refine below_set ?_ GE220.out) | exact HB.out)) hb); clear BK220; clear HB; have BK220 := n0_; have HB := n1_; clear n0_ n1_; (try clear hb); (try clear hb2); (try clear hk); (try clear hi)))
     go_meet
     case rel => exact ⟨_, (true), (by first | rfl | (simp; done) | (simp [*]; done)), H', ⟨by first | omega | exact Nat.le_refl _⟩, ⟨by (with_reducible repeat (first | refine blk_drewN ?_ _ | refine blk_drew ?_ | refine blk_alloc ?_ _)); exact BK220.out⟩, ⟨by repeat (first | (with_reducible first | exact HB.out | apply below_alloc | apply pw_below_drewN | apply below_drew1 | refine below_set ?_ GE220.out) | exact HB.out)⟩⟩
  case rest =>
   clear HC5
   try clear c1
   try clear p2
   try clear c4
   try clear c8
   try clear c8b0
   try clear c8b1
   try clear c10
   try clear c11
   try clear hcz13_0
   try clear hcz13_1
   try clear hcz13_2
   try clear hfz13_0
   try clear hfz13_1
   try clear hfz13_2
   obtain ⟨kq, x28_4, rfl, HA, HJ4, BK220, HB⟩ := hcut
   cases kq with
   | zero => exact absurd HA.out (by simp [tegulalaw32_ExtentRestores.j0])
   | succ kj4 =>
    have H := HA.out
    clear HA
    simp only [tegulalaw32_ExtentRestores.j0] at H
    by_cases c16 : x28_4 = true
    ·
     subst c16
     have H1 : (some true) = some r := by rw [if_pos rfl] at H; exact H
     clear H
     have H := H1
     clear H1
     obtain rfl := Option.some.inj H
     go_wp2
     go_ret
     exact ⟨by first | rfl | (simp [errW_none, errW_some] <;> rfl) | (simp [*, errW_none, errW_some] <;> rfl), by repeat (first | (with_reducible first | exact HB.out | apply below_alloc | apply pw_below_drewN | apply below_drew1 | refine below_set ?_ GE220.out) | exact HB.out)⟩
    ·
     replace c16 := Bool.eq_false_iff.mpr c16
     subst c16
     have H1 : ((tegularef32_Join.f kj4 l0).bind fun bt224 => ((extent_Put.f kj4 l0 a1_0 a1_1 a1_2).bind fun bt228 => ((extent_Cut.f kj4 bt228.1 a1_0 a1_1).bind fun bt235 => (if bt228.2.2 = 0 then (if bt235.2.2 = 0 then ((tegularef32_Same.f kj4 bt235.2.1 (([(⟨a1_0, a1_1, a1_2⟩ : S33)] : List (S33)))).bind fun t245 => (tegulalaw32_ExtentRestores.j1 kj4 bt224.1 bt235.1 bt228.2.1 (!t245))) else (tegulalaw32_ExtentRestores.j1 kj4 bt224.1 bt235.1 bt228.2.1 true)) else (tegulalaw32_ExtentRestores.j1 kj4 bt224.1 bt235.1 bt228.2.1 true))))) = some r := by rw [if_neg (show ¬ (false = true) by decide)] at H; exact H
     clear H
     have H := H1
     clear H1
     replace H := Option.bind_eq_some_iff.mp H
     obtain ⟨⟨t224, t225⟩, A170, H⟩ := H
     replace H : ((extent_Put.f kj4 l0 a1_0 a1_1 a1_2).bind fun bt228 => ((extent_Cut.f kj4 bt228.1 a1_0 a1_1).bind fun bt235 => (if bt228.2.2 = 0 then (if bt235.2.2 = 0 then ((tegularef32_Same.f kj4 bt235.2.1 (([(⟨a1_0, a1_1, a1_2⟩ : S33)] : List (S33)))).bind fun t245 => (tegulalaw32_ExtentRestores.j1 kj4 t224 bt235.1 bt228.2.1 (!t245))) else (tegulalaw32_ExtentRestores.j1 kj4 t224 bt235.1 bt228.2.1 true)) else (tegulalaw32_ExtentRestores.j1 kj4 t224 bt235.1 bt228.2.1 true)))) = some r := H
     have A17 := Aside0.mk A170
     clear A170
     replace H := Option.bind_eq_some_iff.mp H
     obtain ⟨⟨t228, t231, t234⟩, A180, H⟩ := H
     replace H : ((extent_Cut.f kj4 t228 a1_0 a1_1).bind fun bt235 => (if t234 = 0 then (if bt235.2.2 = 0 then ((tegularef32_Same.f kj4 bt235.2.1 (([(⟨a1_0, a1_1, a1_2⟩ : S33)] : List (S33)))).bind fun t245 => (tegulalaw32_ExtentRestores.j1 kj4 t224 bt235.1 t231 (!t245))) else (tegulalaw32_ExtentRestores.j1 kj4 t224 bt235.1 t231 true)) else (tegulalaw32_ExtentRestores.j1 kj4 t224 bt235.1 t231 true))) = some r := H
     have A18 := Aside0.mk A180
     clear A180
     replace H := Option.bind_eq_some_iff.mp H
     obtain ⟨⟨t235, t236, t237⟩, A190, H⟩ := H
     replace H : (if t234 = 0 then (if t237 = 0 then ((tegularef32_Same.f kj4 t236 (([(⟨a1_0, a1_1, a1_2⟩ : S33)] : List (S33)))).bind fun t245 => (tegulalaw32_ExtentRestores.j1 kj4 t224 t235 t231 (!t245))) else (tegulalaw32_ExtentRestores.j1 kj4 t224 t235 t231 true)) else (tegulalaw32_ExtentRestores.j1 kj4 t224 t235 t231 true)) = some r := H
     have A19 := Aside0.mk A190
     clear A190
     have HC20 := Aside0.mk H
     clear H
     go_upto_region 8 with (first | ((with_reducible refine gate_callee (f := 18) rfl ?_); refine goesL_ (some 31) rfl rfl Try.func18 (by kernel_rfl) rfl #[.slice A0 l0.length c0] rfl (by (try simp only [List.map_toArray, List.map_cons, List.map_nil]); first | done | rfl | (simp only [List.length_drop, List.length_take]; rfl)) ?_; (with_reducible refine (tegularef32_Join.calls kj4 _ _ l0 t224 t225 _ ?side1 ?side2 A17.out).mono ?_); (case side1 => repeat (first | exact (Kd.C_below HR0.out HB.out) | (with_reducible refine Kd.C_alloc ?_ _) | (with_reducible refine Kd.C_drewN ?_ _) | (with_reducible refine Kd.C_drew ?_))); (case side2 => exact HC0.out); rintro e w21 ⟨v226, rfl, ho0, hb⟩; refine ⟨_, rfl, ?_⟩; have n0_ := Aside0.mk (Kd.R_lower (Kd.R_newB ho0 (g := gb220) (o := .cells #[.int .i64 a1_0, .int .i64 a1_1, .int .i64 a1_2] 33 (0, 0)) (by (with_reducible repeat (first | refine blk_drewN ?_ _ | refine blk_drew ?_ | refine blk_alloc ?_ _)); exact BK220.out)) (below_size (by repeat (first | (with_reducible first | exact HB.out | apply below_alloc | apply pw_below_drewN | apply below_drew1 | refine below_set ?_ GE220.out) | exact HB.out)))); have n1_ := Aside0.mk (blk_below (g := gb220) (o := .cells #[.int .i64 a1_0, .int .i64 a1_1, .int .i64 a1_2] 33 (0, 0)) (by (with_reducible repeat (first | refine blk_drewN ?_ _ | refine blk_drew ?_ | refine blk_alloc ?_ _)); exact BK220.out) hb); have n2_ := Aside0.mk (below_step (by repeat (first | (with_reducible first | exact HB.out | apply below_alloc | apply pw_below_drewN | apply below_drew1 | refine below_set ?_ GE220.out) | exact HB.out)) hb); clear BK220; clear HB; have HO227 := n0_; have BK220 := n1_; have HB := n2_; clear n0_ n1_ n2_; (try clear hb); (try clear hb2); (try clear hk); (try clear hi); (try clear ho0); have hcz22_0 : w21.cell? ⟨gb220, 0, none⟩ = some (.int .i64 a1_0) := (blk_cell BK220.out 0).trans rfl; have hcz22_1 : w21.cell? ⟨gb220, 1, none⟩ = some (.int .i64 a1_1) := (blk_cell BK220.out 1).trans rfl; have hcz22_2 : w21.cell? ⟨gb220, 2, none⟩ = some (.int .i64 a1_2) := (blk_cell BK220.out 2).trans rfl; have hfz22_0 := blk_frozen BK220.out 0; have hfz22_1 := blk_frozen BK220.out 1; have hfz22_2 := blk_frozen BK220.out 2) | ((with_reducible refine gate_callee (f := 24) rfl ?_); refine goesL_ (some 37) rfl rfl Try.func24 (by kernel_rfl) rfl #[.slice A0 l0.length c0, .agg #[.int .i64 a1_0, .int .i64 a1_1, .int .i64 a1_2]] rfl (by (try simp only [List.map_toArray, List.map_cons, List.map_nil]); first | done | rfl | (simp only [List.length_drop, List.length_take]; rfl)) ?_; (with_reducible refine (extent_Put.calls kj4 _ _ l0 a1_0 a1_1 a1_2 t228 t231 t234 _ ?side1 ?side2 A18.out).mono ?_); (case side1 => repeat (first | exact (Kd.C_below HR0.out HB.out) | (with_reducible refine Kd.C_alloc ?_ _) | (with_reducible refine Kd.C_drewN ?_ _) | (with_reducible refine Kd.C_drew ?_))); (case side2 => exact HC0.out); rintro e w23 ⟨v229, v232, rfl, ho0, ho1, hb⟩; refine ⟨_, rfl, ?_⟩; have n0_ := Aside0.mk (Kd.R_mono (Kd.R_told (Kd.R_told (Kd.R_old (by (with_reducible repeat (first | apply Kd.R_alloc | apply Kd.R_drewN | apply Kd.R_drew)); exact HO227.out) hb) (Kd.R_base ho0)) (Kd.R_base ho1)) (fun _ h_ => h_.1)); have n1_ := Aside0.mk (Kd.R_lower (Kd.R_newB (Kd.R_new' ho0 (Kd.R_lt (by (with_reducible repeat (first | apply Kd.R_alloc | apply Kd.R_drewN | apply Kd.R_drew)); exact HO227.out))) (g := gb220) (o := .cells #[.int .i64 a1_0, .int .i64 a1_1, .int .i64 a1_2] 33 (0, 0)) (by (with_reducible repeat (first | refine blk_drewN ?_ _ | refine blk_drew ?_ | refine blk_alloc ?_ _)); exact BK220.out)) (below_size (by repeat (first | (with_reducible first | exact HB.out | apply below_alloc | apply pw_below_drewN | apply below_drew1 | refine below_set ?_ GE220.out) | exact HB.out)))); have n2_ := Aside0.mk (Kd.R_lower (Kd.R_newB (Kd.R_new' ho1 (Kd.R_lt (by (with_reducible repeat (first | apply Kd.R_alloc | apply Kd.R_drewN | apply Kd.R_drew)); exact HO227.out))) (g := gb220) (o := .cells #[.int .i64 a1_0, .int .i64 a1_1, .int .i64 a1_2] 33 (0, 0)) (by (with_reducible repeat (first | refine blk_drewN ?_ _ | refine blk_drew ?_ | refine blk_alloc ?_ _)); exact BK220.out)) (below_size (by repeat (first | (with_reducible first | exact HB.out | apply below_alloc | apply pw_below_drewN | apply below_drew1 | refine below_set ?_ GE220.out) | exact HB.out)))); have n3_ := Aside0.mk (blk_below (g := gb220) (o := .cells #[.int .i64 a1_0, .int .i64 a1_1, .int .i64 a1_2] 33 (0, 0)) (by (with_reducible repeat (first | refine blk_drewN ?_ _ | refine blk_drew ?_ | refine blk_alloc ?_ _)); exact BK220.out) hb); have n4_ := Aside0.mk (below_step (by repeat (first | (with_reducible first | exact HB.out | apply below_alloc | apply pw_below_drewN | apply below_drew1 | refine below_set ?_ GE220.out) | exact HB.out)) hb); clear HO227; clear BK220; clear HB; have HO227 := n0_; have HO230 := n1_; have HO233 := n2_; have BK220 := n3_; have HB := n4_; clear n0_ n1_ n2_ n3_ n4_; (try clear hb); (try clear hb2); (try clear hk); (try clear hi); (try clear ho0); (try clear ho1); have hcz24_0 : w23.cell? ⟨gb220, 0, none⟩ = some (.int .i64 a1_0) := (blk_cell BK220.out 0).trans rfl; have hcz24_1 : w23.cell? ⟨gb220, 1, none⟩ = some (.int .i64 a1_1) := (blk_cell BK220.out 1).trans rfl; have hcz24_2 : w23.cell? ⟨gb220, 2, none⟩ = some (.int .i64 a1_2) := (blk_cell BK220.out 2).trans rfl; have hfz24_0 := blk_frozen BK220.out 0; have hfz24_1 := blk_frozen BK220.out 1; have hfz24_2 := blk_frozen BK220.out 2; obtain ⟨Ao25, co25, eo25⟩ := Kd.R_slice HO230.out; subst eo25) | ((with_reducible refine gate_callee (f := 13) rfl ?_); refine goesL_ (some 47) rfl rfl Try.func13 (by kernel_rfl) rfl #[.slice Ao25 t228.length co25, .int .i64 a1_0, .int .i64 a1_1] rfl (by (try simp only [List.map_toArray, List.map_cons, List.map_nil]); first | done | rfl | (simp only [List.length_drop, List.length_take]; rfl)) ?_; (with_reducible refine (extent_Cut.calls kj4 _ _ t228 a1_0 a1_1 t235 t236 t237 _ ?side1 ?side2 A19.out).mono ?_); (case side1 => repeat (first | exact (Kd.R_reads' HO230.out).2.2 | (with_reducible refine Kd.C_alloc ?_ _) | (with_reducible refine Kd.C_drewN ?_ _) | (with_reducible refine Kd.C_drew ?_))); (case side2 => exact (Kd.R_reads' HO230.out).2.1); rintro e w26 ⟨v238, v240, rfl, ho0, ho1, hb⟩; refine ⟨_, rfl, ?_⟩; have n0_ := Aside0.mk (Kd.R_mono (Kd.R_told (Kd.R_told (Kd.R_old (by (with_reducible repeat (first | apply Kd.R_alloc | apply Kd.R_drewN | apply Kd.R_drew)); exact HO227.out) hb) (Kd.R_base ho0)) (Kd.R_base ho1)) (fun _ h_ => h_.1)); have n1_ := Aside0.mk (Kd.R_mono (Kd.R_told (Kd.R_told (Kd.R_old (by (with_reducible repeat (first | apply Kd.R_alloc | apply Kd.R_drewN | apply Kd.R_drew)); exact HO230.out) hb) (Kd.R_base ho0)) (Kd.R_base ho1)) (fun _ h_ => h_.1)); have n2_ := Aside0.mk (Kd.R_mono (Kd.R_told (Kd.R_told (Kd.R_old (by (with_reducible repeat (first | apply Kd.R_alloc | apply Kd.R_drewN | apply Kd.R_drew)); exact HO233.out) hb) (Kd.R_base ho0)) (Kd.R_base ho1)) (fun _ h_ => h_.1)); have n3_ := Aside0.mk (Kd.R_lower (Kd.R_newB (Kd.R_new' (Kd.R_new' (Kd.R_new' ho0 (Kd.R_lt (by (with_reducible repeat (first | apply Kd.R_alloc | apply Kd.R_drewN | apply Kd.R_drew)); exact HO227.out))) (Kd.R_lt (by (with_reducible repeat (first | apply Kd.R_alloc | apply Kd.R_drewN | apply Kd.R_drew)); exact HO230.out))) (Kd.R_lt (by (with_reducible repeat (first | apply Kd.R_alloc | apply Kd.R_drewN | apply Kd.R_drew)); exact HO233.out))) (g := gb220) (o := .cells #[.int .i64 a1_0, .int .i64 a1_1, .int .i64 a1_2] 33 (0, 0)) (by (with_reducible repeat (first | refine blk_drewN ?_ _ | refine blk_drew ?_ | refine blk_alloc ?_ _)); exact BK220.out)) (below_size (by repeat (first | (with_reducible first | exact HB.out | apply below_alloc | apply pw_below_drewN | apply below_drew1 | refine below_set ?_ GE220.out) | exact HB.out)))); have n4_ := Aside0.mk (Kd.R_lower (Kd.R_newB (Kd.R_new' (Kd.R_new' (Kd.R_new' ho1 (Kd.R_lt (by (with_reducible repeat (first | apply Kd.R_alloc | apply Kd.R_drewN | apply Kd.R_drew)); exact HO227.out))) (Kd.R_lt (by (with_reducible repeat (first | apply Kd.R_alloc | apply Kd.R_drewN | apply Kd.R_drew)); exact HO230.out))) (Kd.R_lt (by (with_reducible repeat (first | apply Kd.R_alloc | apply Kd.R_drewN | apply Kd.R_drew)); exact HO233.out))) (g := gb220) (o := .cells #[.int .i64 a1_0, .int .i64 a1_1, .int .i64 a1_2] 33 (0, 0)) (by (with_reducible repeat (first | refine blk_drewN ?_ _ | refine blk_drew ?_ | refine blk_alloc ?_ _)); exact BK220.out)) (below_size (by repeat (first | (with_reducible first | exact HB.out | apply below_alloc | apply pw_below_drewN | apply below_drew1 | refine below_set ?_ GE220.out) | exact HB.out)))); have n5_ := Aside0.mk (blk_below (g := gb220) (o := .cells #[.int .i64 a1_0, .int .i64 a1_1, .int .i64 a1_2] 33 (0, 0)) (by (with_reducible repeat (first | refine blk_drewN ?_ _ | refine blk_drew ?_ | refine blk_alloc ?_ _)); exact BK220.out) hb); have n6_ := Aside0.mk (below_step (by repeat (first | (with_reducible first | exact HB.out | apply below_alloc | apply pw_below_drewN | apply below_drew1 | refine below_set ?_ GE220.out) | exact HB.out)) hb); clear HO227; clear HO230; clear HO233; clear BK220; clear HB; have HO227 := n0_; have HO230 := n1_; have HO233 := n2_; have HO239 := n3_; have HO241 := n4_; have BK220 := n5_; have HB := n6_; clear n0_ n1_ n2_ n3_ n4_ n5_ n6_; (try clear hb); (try clear hb2); (try clear hk); (try clear hi); (try clear ho0); (try clear ho1)))
     (try simp only [Act.put, List.setIfInBounds_toArray, List.set_cons_zero, List.set_cons_succ])
     go_cut [63] (fun v63 wc => ∃ (kq : Nat) (x63_19 : Bool), v63 = .bool x63_19 ∧ Aside0 (tegulalaw32_ExtentRestores.j1 kq t224 t235 t231 x63_19 = some r) ∧ Aside0 (kq ≤ kj4) ∧ Aside0 (Kd.R k33 33 wc w.heap.size (fun k_ => some k_ ≠ (v238 : Value).ownBlock ∧ some k_ ≠ (v232 : Value).ownBlock ∧ k_ ≠ gb220) v226 t224) ∧ Aside0 (Kd.R k33 33 wc w.heap.size (fun k_ => some k_ ≠ (v226 : Value).ownBlock ∧ some k_ ≠ (v232 : Value).ownBlock ∧ k_ ≠ gb220) v238 t235) ∧ Aside0 (Kd.R k33 33 wc w.heap.size (fun k_ => some k_ ≠ (v226 : Value).ownBlock ∧ some k_ ≠ (v238 : Value).ownBlock ∧ k_ ≠ gb220) v232 t231) ∧ Aside0 (wc.heap[gb220]? = some (.cells #[.int .i64 a1_0, .int .i64 a1_1, .int .i64 a1_2] 33 (0, 0))) ∧ Aside0 (Below w.heap.size w wc))
     case first =>
      have H := HC20.out
      clear HC20
      by_cases c27 : t234 = 0
      ·
       rw [if_pos c27] at H
       have c27b0 : (t234 == 0) = true := beq_iff_eq.mpr c27
       have c27b1 : (t234 != 0) = false := bne_eq_false_iff_eq.mpr c27
       clear c27
       (first | rw [c27b0] | (simp only [i64_w, i32_w]; rw [c27b0]) | skip)
       by_cases c28 : t237 = 0
       ·
        rw [if_pos c28] at H
        have c28b0 : (t237 == 0) = true := beq_iff_eq.mpr c28
        have c28b1 : (t237 != 0) = false := bne_eq_false_iff_eq.mpr c28
        clear c28
        obtain ⟨y242, hy242⟩ : ∃ y_ : List (S33), y_ = (([(⟨a1_0, a1_1, a1_2⟩ : S33)] : List (S33))) := ⟨_, rfl⟩
        replace H : ((tegularef32_Same.f kj4 t236 y242).bind fun t245 => (tegulalaw32_ExtentRestores.j1 kj4 t224 t235 t231 (!t245))) = some r := by first | (rw [hy242]; with_reducible exact H) | (have H2_ := (Option.bind_some _ _).symm.trans H; rw [hy242]; with_reducible exact H2_) | (have H2_ := (Option.bind_some _ _).symm.trans H; with_reducible exact H2_) | with_reducible exact H | (rw [hy242]; exact H) | exact H
        have Ny242 := Aside0.mk hy242
        clear hy242
        replace H := Option.bind_eq_some_iff.mp H
        obtain ⟨t245, A290, H⟩ := H
        replace H : (tegulalaw32_ExtentRestores.j1 kj4 t224 t235 t231 (!t245)) = some r := H
        have A29 := Aside0.mk A290
        clear A290
        have H' := Aside0.mk H
        clear H
        have hcz30_0 : w26.cell? ⟨gb220, 0, none⟩ = some (.int .i64 a1_0) := (blk_cell BK220.out 0).trans rfl
        have hcz30_1 : w26.cell? ⟨gb220, 1, none⟩ = some (.int .i64 a1_1) := (blk_cell BK220.out 1).trans rfl
        have hcz30_2 : w26.cell? ⟨gb220, 2, none⟩ = some (.int .i64 a1_2) := (blk_cell BK220.out 2).trans rfl
        have hfz30_0 := blk_frozen BK220.out 0
        have hfz30_1 := blk_frozen BK220.out 1
        have hfz30_2 := blk_frozen BK220.out 2
        go_wp2_with (first | ((with_reducible refine gate_dst (N := 60) rfl ?_); (try (refine gate_guard (by rfl) ?_; dsimp only)); refine Kd.R_lit k33 _ 33 ?hg (N := 60) ?hd (xs := ([(⟨a1_0, a1_1, a1_2⟩ : S33)] : List (S33))) (inner := [.int .i64 a1_0, .int .i64 a1_1, .int .i64 a1_2]) (ok := fun _ => True) (okp := fun _ => True) ?hr ?hp (fun _ hk => hk) trivial (Below.refl _ _) (Nat.le_refl _) (by simp) ?_; (case hd => rfl); (case hg => rfl); (case hr => first | (go_simp; done) | (go_simp; rfl)); (case hp => exact (Reps.c3 (show Kd.M k33 _ _ _ (⟨a1_0, a1_1, a1_2⟩ : S33) [.int .i64 a1_0, .int .i64 a1_1, .int .i64 a1_2] from (k33_mkM _ _ _ (⟨a1_0, a1_1, a1_2⟩ : S33) )) (Reps.none _ _))); intro v243 w31 ho32 hb hg_ hnew_; clear hg_ hnew_; (first | rw [← Ny242.out] at ho32 | (simp only [Int.reduceToNat] at ho32; rw [← Ny242.out] at ho32)); have n0_ := Aside0.mk (Kd.R_elder' (by (with_reducible repeat (first | apply Kd.R_alloc | apply Kd.R_drewN | apply Kd.R_drew)); exact HO227.out) (Kd.R_base ho32) hb); have n1_ := Aside0.mk (Kd.R_elder' (by (with_reducible repeat (first | apply Kd.R_alloc | apply Kd.R_drewN | apply Kd.R_drew)); exact HO230.out) (Kd.R_base ho32) hb); have n2_ := Aside0.mk (Kd.R_elder' (by (with_reducible repeat (first | apply Kd.R_alloc | apply Kd.R_drewN | apply Kd.R_drew)); exact HO233.out) (Kd.R_base ho32) hb); have n3_ := Aside0.mk (Kd.R_elder' (by (with_reducible repeat (first | apply Kd.R_alloc | apply Kd.R_drewN | apply Kd.R_drew)); exact HO239.out) (Kd.R_base ho32) hb); have n4_ := Aside0.mk (Kd.R_elder' (by (with_reducible repeat (first | apply Kd.R_alloc | apply Kd.R_drewN | apply Kd.R_drew)); exact HO241.out) (Kd.R_base ho32) hb); have n5_ := Aside0.mk (Kd.R_lower (Kd.R_newB (Kd.R_new' (Kd.R_new' (Kd.R_new' (Kd.R_new' (Kd.R_new' ho32 (Kd.R_lt (by (with_reducible repeat (first | apply Kd.R_alloc | apply Kd.R_drewN | apply Kd.R_drew)); exact HO227.out))) (Kd.R_lt (by (with_reducible repeat (first | apply Kd.R_alloc | apply Kd.R_drewN | apply Kd.R_drew)); exact HO230.out))) (Kd.R_lt (by (with_reducible repeat (first | apply Kd.R_alloc | apply Kd.R_drewN | apply Kd.R_drew)); exact HO233.out))) (Kd.R_lt (by (with_reducible repeat (first | apply Kd.R_alloc | apply Kd.R_drewN | apply Kd.R_drew)); exact HO239.out))) (Kd.R_lt (by (with_reducible repeat (first | apply Kd.R_alloc | apply Kd.R_drewN | apply Kd.R_drew)); exact HO241.out))) (g := gb220) (o := .cells #[.int .i64 a1_0, .int .i64 a1_1, .int .i64 a1_2] 33 (0, 0)) (by (with_reducible repeat (first | refine blk_drewN ?_ _ | refine blk_drew ?_ | refine blk_alloc ?_ _)); exact BK220.out)) (below_size (by repeat (first | (with_reducible first | exact HB.out | apply below_alloc | apply pw_below_drewN | apply below_drew1 | refine below_set ?_ GE220.out) | exact HB.out)))); have n6_ := Aside0.mk (blk_below (g := gb220) (o := .cells #[.int .i64 a1_0, .int .i64 a1_1, .int .i64 a1_2] 33 (0, 0)) (by (with_reducible repeat (first | refine blk_drewN ?_ _ | refine blk_drew ?_ | refine blk_alloc ?_ _)); exact BK220.out) hb); have n7_ := Aside0.mk (below_step (by repeat (first | (with_reducible first | exact HB.out | apply below_alloc | apply pw_below_drewN | apply below_drew1 | refine below_set ?_ GE220.out) | exact HB.out)) hb); clear HO227; clear HO230; clear HO233; clear HO239; clear HO241; clear BK220; clear HB; have HO227 := n0_; have HO230 := n1_; have HO233 := n2_; have HO239 := n3_; have HO241 := n4_; have HO244 := n5_; have BK220 := n6_; have HB := n7_; clear n0_ n1_ n2_ n3_ n4_ n5_ n6_ n7_; clear hb ho32; obtain ⟨Ao33, co33, eo33⟩ := Kd.R_slice HO241.out; subst eo33; obtain ⟨Ao34, co34, eo34⟩ := Kd.R_slice HO244.out; subst eo34) | (go_at_call 15; (with_reducible refine (tegularef32_Same.calls kj4 _ _ t236 _ _ y242 t245 _ ?side1 ?side2 ?side3 ?side4 A29.out).mono ?_); (case side1 => repeat (first | exact (Kd.R_reads' HO241.out).2.2 | (with_reducible refine Kd.C_alloc ?_ _) | (with_reducible refine Kd.C_drewN ?_ _) | (with_reducible refine Kd.C_drew ?_))); (case side2 => exact (Kd.R_reads' HO241.out).2.1); (case side3 => repeat (first | exact (Kd.R_reads' HO244.out).2.2 | (with_reducible refine Kd.C_alloc ?_ _) | (with_reducible refine Kd.C_drewN ?_ _) | (with_reducible refine Kd.C_drew ?_))); (case side4 => exact (Kd.R_reads' HO244.out).2.1); rintro e w' ⟨rfl, ⟨nd, rfl⟩⟩))
        go_meet
        case rel => exact ⟨_, (!t245), (by first | rfl | (simp; done) | (simp [*]; done)), H', ⟨by have := HJ4.out; first | omega | exact Nat.le_refl _⟩, ⟨by (with_reducible repeat (first | apply Kd.R_alloc | apply Kd.R_drewN | apply Kd.R_drew)); exact Kd.R_mono HO227.out (fun _ hk => ⟨hk.1.1.2, ⟨hk.1.1.1.2, hk.1.1.1.1.1.2⟩⟩)⟩, ⟨by (with_reducible repeat (first | apply Kd.R_alloc | apply Kd.R_drewN | apply Kd.R_drew)); exact Kd.R_mono HO239.out (fun _ hk => ⟨hk.1.1.1.1.2, ⟨hk.1.1.2, hk.1.2⟩⟩)⟩, ⟨by (with_reducible repeat (first | apply Kd.R_alloc | apply Kd.R_drewN | apply Kd.R_drew)); exact Kd.R_mono HO233.out (fun _ hk => ⟨hk.1.1.1.1.2, ⟨hk.1.1.2, hk.1.1.1.2⟩⟩)⟩, ⟨by (with_reducible repeat (first | refine blk_drewN ?_ _ | refine blk_drew ?_ | refine blk_alloc ?_ _)); exact BK220.out⟩, ⟨by repeat (first | (with_reducible first | exact HB.out | apply below_alloc | apply pw_below_drewN | apply below_drew1 | refine below_set ?_ GE220.out) | exact HB.out)⟩⟩
       ·
        rw [if_neg c28] at H
        have c28b0 : (t237 == 0) = false := beq_eq_false_iff_ne.mpr c28
        have c28b1 : (t237 != 0) = true := bne_iff_ne.mpr c28
        have H' := Aside0.mk H
        clear H
        go_wp2
        go_meet
        case rel => exact ⟨_, (true), (by first | rfl | (simp; done) | (simp [*]; done)), H', ⟨by have := HJ4.out; first | omega | exact Nat.le_refl _⟩, ⟨by (with_reducible repeat (first | apply Kd.R_alloc | apply Kd.R_drewN | apply Kd.R_drew)); exact Kd.R_mono HO227.out (fun _ hk => ⟨hk.1.2, ⟨hk.1.1.2, hk.1.1.1.1.2⟩⟩)⟩, ⟨by (with_reducible repeat (first | apply Kd.R_alloc | apply Kd.R_drewN | apply Kd.R_drew)); exact Kd.R_mono HO239.out (fun _ hk => ⟨hk.1.1.1.2, ⟨hk.1.2, hk.2⟩⟩)⟩, ⟨by (with_reducible repeat (first | apply Kd.R_alloc | apply Kd.R_drewN | apply Kd.R_drew)); exact Kd.R_mono HO233.out (fun _ hk => ⟨hk.1.1.1.2, ⟨hk.1.2, hk.1.1.2⟩⟩)⟩, ⟨by (with_reducible repeat (first | refine blk_drewN ?_ _ | refine blk_drew ?_ | refine blk_alloc ?_ _)); exact BK220.out⟩, ⟨by repeat (first | (with_reducible first | exact HB.out | apply below_alloc | apply pw_below_drewN | apply below_drew1 | refine below_set ?_ GE220.out) | exact HB.out)⟩⟩
      ·
       rw [if_neg c27] at H
       have c27b0 : (t234 == 0) = false := beq_eq_false_iff_ne.mpr c27
       have c27b1 : (t234 != 0) = true := bne_iff_ne.mpr c27
       (first | rw [c27b0] | (simp only [i64_w, i32_w]; rw [c27b0]) | skip)
       have H' := Aside0.mk H
       clear H
       go_wp2
       go_meet
       case rel => exact ⟨_, (true), (by first | rfl | (simp; done) | (simp [*]; done)), H', ⟨by have := HJ4.out; first | omega | exact Nat.le_refl _⟩, ⟨by (with_reducible repeat (first | apply Kd.R_alloc | apply Kd.R_drewN | apply Kd.R_drew)); exact Kd.R_mono HO227.out (fun _ hk => ⟨hk.1.2, ⟨hk.1.1.2, hk.1.1.1.1.2⟩⟩)⟩, ⟨by (with_reducible repeat (first | apply Kd.R_alloc | apply Kd.R_drewN | apply Kd.R_drew)); exact Kd.R_mono HO239.out (fun _ hk => ⟨hk.1.1.1.2, ⟨hk.1.2, hk.2⟩⟩)⟩, ⟨by (with_reducible repeat (first | apply Kd.R_alloc | apply Kd.R_drewN | apply Kd.R_drew)); exact Kd.R_mono HO233.out (fun _ hk => ⟨hk.1.1.1.2, ⟨hk.1.2, hk.1.1.2⟩⟩)⟩, ⟨by (with_reducible repeat (first | refine blk_drewN ?_ _ | refine blk_drew ?_ | refine blk_alloc ?_ _)); exact BK220.out⟩, ⟨by repeat (first | (with_reducible first | exact HB.out | apply below_alloc | apply pw_below_drewN | apply below_drew1 | refine below_set ?_ GE220.out) | exact HB.out)⟩⟩
     case rest =>
      clear HC20
      try clear c1
      try clear c2
      try clear p2
      try clear c3
      try clear c4
      try clear c8
      try clear c8b0
      try clear c8b1
      try clear c10
      try clear c11
      try clear c13
      try clear c16
      try clear c18
      try clear c24
      try clear c27
      try clear c27b0
      try clear c27b1
      try clear c28
      try clear c28b0
      try clear c28b1
      try clear hcz13_0
      try clear hcz13_1
      try clear hcz13_2
      try clear hcz22_0
      try clear hcz22_1
      try clear hcz22_2
      try clear hcz24_0
      try clear hcz24_1
      try clear hcz24_2
      try clear hcz30_0
      try clear hcz30_1
      try clear hcz30_2
      try clear hfz13_0
      try clear hfz13_1
      try clear hfz13_2
      try clear hfz22_0
      try clear hfz22_1
      try clear hfz22_2
      try clear hfz24_0
      try clear hfz24_1
      try clear hfz24_2
      try clear hfz30_0
      try clear hfz30_1
      try clear hfz30_2
      try clear p2
      obtain ⟨kq, x63_19, rfl, HA, HJ19, HO_5, HO_7, HO_8, BK220, HB⟩ := hcut
      cases kq with
      | zero => exact absurd HA.out (by simp [tegulalaw32_ExtentRestores.j1])
      | succ kj19 =>
       have H := HA.out
       clear HA
       simp only [tegulalaw32_ExtentRestores.j1] at H
       by_cases c35 : x63_19 = true
       ·
        subst c35
        have H1 : (some false) = some r := by rw [if_pos rfl] at H; exact H
        clear H
        have H := H1
        clear H1
        obtain rfl := Option.some.inj H
        go_wp2
        go_ret
        exact ⟨by first | rfl | (simp [errW_none, errW_some] <;> rfl) | (simp [*, errW_none, errW_some] <;> rfl), by repeat (first | (with_reducible first | exact HB.out | apply below_alloc | apply pw_below_drewN | apply below_drew1 | refine below_set ?_ GE220.out) | exact HB.out)⟩
       ·
        replace c35 := Bool.eq_false_iff.mpr c35
        subst c35
        have H1 : (tegulalaw32_ExtentRestores.l0 kj19 t224 t235 t231 0) = some r := by rw [if_neg (show ¬ (false = true) by decide)] at H; exact H
        clear H
        have H := H1
        clear H1
        have H' := Aside0.mk H
        clear H
        go_wp2
        go_loopg [7, 12] kj19 (fun kq v7 v12 w' => ∃ (x7_3 : List (S33)) (x12_3 : Int), v12 = .int .i64 x12_3 ∧ Aside0 (tegulalaw32_ExtentRestores.l0 kq t224 x7_3 t231 x12_3 = some r) ∧ Aside0 (kq ≤ kj19) ∧ Aside0 (Kd.R k33 33 w' w.heap.size (fun k_ => some k_ ≠ (v7 : Value).ownBlock ∧ some k_ ≠ (v232 : Value).ownBlock ∧ k_ ≠ gb220) v226 t224) ∧ Aside0 (Kd.R k33 33 w' w.heap.size (fun k_ => some k_ ≠ (v226 : Value).ownBlock ∧ some k_ ≠ (v232 : Value).ownBlock ∧ k_ ≠ gb220) v7 x7_3) ∧ Aside0 (Kd.R k33 33 w' w.heap.size (fun k_ => some k_ ≠ (v226 : Value).ownBlock ∧ some k_ ≠ (v7 : Value).ownBlock ∧ k_ ≠ gb220) v232 t231) ∧ Aside0 (w'.heap[gb220]? = some (.cells #[.int .i64 a1_0, .int .i64 a1_1, .int .i64 a1_2] 33 (0, 0))) ∧ Aside0 (Below w.heap.size w w'))
        case atStart => exact ⟨(t235), (0), (by first | rfl | (simp; done) | (simp [*]; done)), H', ⟨Nat.le_refl _⟩, ⟨by (with_reducible repeat (first | apply Kd.R_alloc | apply Kd.R_drewN | apply Kd.R_drew)); exact HO_5.out⟩, ⟨by (with_reducible repeat (first | apply Kd.R_alloc | apply Kd.R_drewN | apply Kd.R_drew)); exact HO_7.out⟩, ⟨by (with_reducible repeat (first | apply Kd.R_alloc | apply Kd.R_drewN | apply Kd.R_drew)); exact HO_8.out⟩, ⟨by (with_reducible repeat (first | refine blk_drewN ?_ _ | refine blk_drew ?_ | refine blk_alloc ?_ _)); exact BK220.out⟩, ⟨by repeat (first | (with_reducible first | exact HB.out | apply below_alloc | apply pw_below_drewN | apply below_drew1 | refine below_set ?_ GE220.out) | exact HB.out)⟩⟩
        case round =>
         clear H'
         try clear c1
         try clear c2
         try clear p2
         try clear c3
         try clear c4
         try clear c8
         try clear c8b0
         try clear c8b1
         try clear c10
         try clear c11
         try clear c13
         try clear c16
         try clear c18
         try clear c24
         try clear c27
         try clear c27b0
         try clear c27b1
         try clear c28
         try clear c28b0
         try clear c28b1
         try clear c35
         try clear hcz13_0
         try clear hcz13_1
         try clear hcz13_2
         try clear hcz22_0
         try clear hcz22_1
         try clear hcz22_2
         try clear hcz24_0
         try clear hcz24_1
         try clear hcz24_2
         try clear hcz30_0
         try clear hcz30_1
         try clear hcz30_2
         try clear hfz13_0
         try clear hfz13_1
         try clear hfz13_2
         try clear hfz22_0
         try clear hfz22_1
         try clear hfz22_2
         try clear hfz24_0
         try clear hfz24_1
         try clear hfz24_2
         try clear hfz30_0
         try clear hfz30_1
         try clear hfz30_2
         try clear p2
         obtain ⟨x7_3, x12_3, rfl, HA, HK3, HO_5, HO_7, HO_8, BK220, HB⟩ := hrel
         cases gk with
         | zero => exact absurd HA.out (by simp [tegulalaw32_ExtentRestores.l0])
         | succ k3 =>
          have H := HA.out
          clear HA
          simp only [tegulalaw32_ExtentRestores.l0] at H
          by_cases c36 : x12_3 < (t231.length : Int)
          ·
           rw [if_pos c36] at H
           have c36b0 : decide (x12_3 < (t231.length : Int)) = true := decide_eq_true c36
           clear c36
           by_cases c37 : 0 ≤ x12_3
           ·
            rw [if_pos c37] at H
            have c37b0 : decide (0 ≤ x12_3) = true := decide_eq_true c37
            clear c37
            replace H := Option.bind_eq_some_iff.mp H
            obtain ⟨⟨t247, t250, t253⟩, A380, H⟩ := H
            replace H : (if t253 = 0 then (tegulalaw32_ExtentRestores.l0 k3 t224 t247 t231 (wrap64 (x12_3 + 1))) else (some false)) = some r := H
            have A38 := Aside0.mk A380
            clear A380
            by_cases c39 : t253 = 0
            ·
             rw [if_pos c39] at H
             have c39b0 : (t253 == 0) = true := beq_iff_eq.mpr c39
             have c39b1 : (t253 != 0) = false := bne_eq_false_iff_eq.mpr c39
             clear c39
             have H' := Aside0.mk H
             clear H
             obtain ⟨Ao40, co40, eo40⟩ := Kd.R_slice HO_8.out
             subst eo40
             have p246 : 0 ≤ (x12_3 : Int) := of_decide_eq_true (by first | (with_reducible assumption) | assumption)
             have q246 : x12_3 < (t231.length : Int) := of_decide_eq_true (by first | (with_reducible assumption) | assumption)
             obtain ⟨ad246, e246, hx246_0, hx246_1, hx246_2⟩ := at_T33 (Kd.R_reads' HO_8.out).2.2 x12_3 p246 q246
             cases e246
             replace p246 := eq_true p246
             replace q246 := eq_true q246
             obtain ⟨Ao41, co41, eo41⟩ := Kd.R_slice HO_7.out
             subst eo41
             go_wp2_with (first | ((with_reducible refine gate_callee (f := 24) rfl ?_); refine goesL_ (some 76) rfl rfl Try.func24 (by kernel_rfl) rfl #[.slice Ao41 x7_3.length co41, .agg #[.int .i64 ((rd_T33 t231 x12_3).f0), .int .i64 ((rd_T33 t231 x12_3).f1), .int .i64 ((rd_T33 t231 x12_3).f2)]] rfl (by (try simp only [List.map_toArray, List.map_cons, List.map_nil]); first | done | rfl | (simp only [List.length_drop, List.length_take]; rfl)) ?_; (with_reducible refine (extent_Put.calls k3 _ _ x7_3 ((rd_T33 t231 x12_3).f0) ((rd_T33 t231 x12_3).f1) ((rd_T33 t231 x12_3).f2) t247 t250 t253 _ ?side1 ?side2 A38.out).mono ?_); (case side1 => repeat (first | exact (Kd.R_reads' HO_7.out).2.2 | (with_reducible refine Kd.C_alloc ?_ _) | (with_reducible refine Kd.C_drewN ?_ _) | (with_reducible refine Kd.C_drew ?_))); (case side2 => exact (Kd.R_reads' HO_7.out).2.1); rintro e w42 ⟨v248, v251, rfl, ho0, ho1, hb⟩; refine ⟨_, rfl, ?_⟩; have n0_ := Aside0.mk (Kd.R_mono (Kd.R_told (Kd.R_told (Kd.R_old (by (with_reducible repeat (first | apply Kd.R_alloc | apply Kd.R_drewN | apply Kd.R_drew)); exact HO_5.out) hb) (Kd.R_base ho0)) (Kd.R_base ho1)) (fun _ h_ => h_.1)); have n1_ := Aside0.mk (Kd.R_mono (Kd.R_told (Kd.R_told (Kd.R_old (by (with_reducible repeat (first | apply Kd.R_alloc | apply Kd.R_drewN | apply Kd.R_drew)); exact HO_7.out) hb) (Kd.R_base ho0)) (Kd.R_base ho1)) (fun _ h_ => h_.1)); have n2_ := Aside0.mk (Kd.R_mono (Kd.R_told (Kd.R_told (Kd.R_old (by (with_reducible repeat (first | apply Kd.R_alloc | apply Kd.R_drewN | apply Kd.R_drew)); exact HO_8.out) hb) (Kd.R_base ho0)) (Kd.R_base ho1)) (fun _ h_ => h_.1)); have n3_ := Aside0.mk (Kd.R_lower (Kd.R_newB (Kd.R_new' (Kd.R_new' (Kd.R_new' ho0 (Kd.R_lt (by (with_reducible repeat (first | apply Kd.R_alloc | apply Kd.R_drewN | apply Kd.R_drew)); exact HO_5.out))) (Kd.R_lt (by (with_reducible repeat (first | apply Kd.R_alloc | apply Kd.R_drewN | apply Kd.R_drew)); exact HO_7.out))) (Kd.R_lt (by (with_reducible repeat (first | apply Kd.R_alloc | apply Kd.R_drewN | apply Kd.R_drew)); exact HO_8.out))) (g := gb220) (o := .cells #[.int .i64 a1_0, .int .i64 a1_1, .int .i64 a1_2] 33 (0, 0)) (by (with_reducible repeat (first | refine blk_drewN ?_ _ | refine blk_drew ?_ | refine blk_alloc ?_ _)); exact BK220.out)) (below_size (by repeat (first | (with_reducible first | exact HB.out | apply below_alloc | apply pw_below_drewN | apply below_drew1 | refine below_set ?_ GE220.out) | exact HB.out)))); have n4_ := Aside0.mk (Kd.R_lower (Kd.R_newB (Kd.R_new' (Kd.R_new' (Kd.R_new' ho1 (Kd.R_lt (by (with_reducible repeat (first | apply Kd.R_alloc | apply Kd.R_drewN | apply Kd.R_drew)); exact HO_5.out))) (Kd.R_lt (by (with_reducible repeat (first | apply Kd.R_alloc | apply Kd.R_drewN | apply Kd.R_drew)); exact HO_7.out))) (Kd.R_lt (by (with_reducible repeat (first | apply Kd.R_alloc | apply Kd.R_drewN | apply Kd.R_drew)); exact HO_8.out))) (g := gb220) (o := .cells #[.int .i64 a1_0, .int .i64 a1_1, .int .i64 a1_2] 33 (0, 0)) (by (with_reducible repeat (first | refine blk_drewN ?_ _ | refine blk_drew ?_ | refine blk_alloc ?_ _)); exact BK220.out)) (below_size (by repeat (first | (with_reducible first | exact HB.out | apply below_alloc | apply pw_below_drewN | apply below_drew1 | refine below_set ?_ GE220.out) | exact HB.out)))); have n5_ := Aside0.mk (blk_below (g := gb220) (o := .cells #[.int .i64 a1_0, .int .i64 a1_1, .int .i64 a1_2] 33 (0, 0)) (by (with_reducible repeat (first | refine blk_drewN ?_ _ | refine blk_drew ?_ | refine blk_alloc ?_ _)); exact BK220.out) hb); have n6_ := Aside0.mk (below_step (by repeat (first | (with_reducible first | exact HB.out | apply below_alloc | apply pw_below_drewN | apply below_drew1 | refine below_set ?_ GE220.out) | exact HB.out)) hb); clear HO_5; clear HO_7; clear HO_8; clear BK220; clear HB; have HO_5 := n0_; have HO_7 := n1_; have HO_8 := n2_; have HO249 := n3_; have HO252 := n4_; have BK220 := n5_; have HB := n6_; clear n0_ n1_ n2_ n3_ n4_ n5_ n6_; (try clear hb); (try clear hb2); (try clear hk); (try clear hi); (try clear ho0); (try clear ho1)))
             go_roundg k3
             case measure => have := HJ4.out; have := HJ19.out; have := HK3.out; omega
             case rel => exact ⟨(t247), (wrap64 (x12_3 + 1)), (by first | rfl | (simp; done) | (simp [*]; done)), H', ⟨by have := HJ4.out; have := HJ19.out; have := HK3.out; omega⟩, ⟨by (with_reducible repeat (first | apply Kd.R_alloc | apply Kd.R_drewN | apply Kd.R_drew)); exact Kd.R_mono HO_5.out (fun _ hk => ⟨hk.1.2, ⟨hk.1.1.2.1, hk.1.1.2.2⟩⟩)⟩, ⟨by (with_reducible repeat (first | apply Kd.R_alloc | apply Kd.R_drewN | apply Kd.R_drew)); exact Kd.R_mono HO249.out (fun _ hk => ⟨hk.1.1.1.2, ⟨hk.1.2, hk.2⟩⟩)⟩, ⟨by (with_reducible repeat (first | apply Kd.R_alloc | apply Kd.R_drewN | apply Kd.R_drew)); exact Kd.R_mono HO_8.out (fun _ hk => ⟨hk.1.1.1, ⟨hk.1.2, hk.1.1.2.2⟩⟩)⟩, ⟨by (with_reducible repeat (first | refine blk_drewN ?_ _ | refine blk_drew ?_ | refine blk_alloc ?_ _)); exact BK220.out⟩, ⟨by repeat (first | (with_reducible first | exact HB.out | apply below_alloc | apply pw_below_drewN | apply below_drew1 | refine below_set ?_ GE220.out) | exact HB.out)⟩⟩
            ·
             rw [if_neg c39] at H
             have c39b0 : (t253 == 0) = false := beq_eq_false_iff_ne.mpr c39
             have c39b1 : (t253 != 0) = true := bne_iff_ne.mpr c39
             obtain rfl := Option.some.inj H
             obtain ⟨Ao43, co43, eo43⟩ := Kd.R_slice HO_8.out
             subst eo43
             have p246 : 0 ≤ (x12_3 : Int) := of_decide_eq_true (by first | (with_reducible assumption) | assumption)
             have q246 : x12_3 < (t231.length : Int) := of_decide_eq_true (by first | (with_reducible assumption) | assumption)
             obtain ⟨ad246, e246, hx246_0, hx246_1, hx246_2⟩ := at_T33 (Kd.R_reads' HO_8.out).2.2 x12_3 p246 q246
             cases e246
             replace p246 := eq_true p246
             replace q246 := eq_true q246
             obtain ⟨Ao44, co44, eo44⟩ := Kd.R_slice HO_7.out
             subst eo44
             go_wp2_with (first | ((with_reducible refine gate_callee (f := 24) rfl ?_); refine goesL_ (some 76) rfl rfl Try.func24 (by kernel_rfl) rfl #[.slice Ao44 x7_3.length co44, .agg #[.int .i64 ((rd_T33 t231 x12_3).f0), .int .i64 ((rd_T33 t231 x12_3).f1), .int .i64 ((rd_T33 t231 x12_3).f2)]] rfl (by (try simp only [List.map_toArray, List.map_cons, List.map_nil]); first | done | rfl | (simp only [List.length_drop, List.length_take]; rfl)) ?_; (with_reducible refine (extent_Put.calls k3 _ _ x7_3 ((rd_T33 t231 x12_3).f0) ((rd_T33 t231 x12_3).f1) ((rd_T33 t231 x12_3).f2) t247 t250 t253 _ ?side1 ?side2 A38.out).mono ?_); (case side1 => repeat (first | exact (Kd.R_reads' HO_7.out).2.2 | (with_reducible refine Kd.C_alloc ?_ _) | (with_reducible refine Kd.C_drewN ?_ _) | (with_reducible refine Kd.C_drew ?_))); (case side2 => exact (Kd.R_reads' HO_7.out).2.1); rintro e w45 ⟨v248, v251, rfl, ho0, ho1, hb⟩; refine ⟨_, rfl, ?_⟩; have n0_ := Aside0.mk (Kd.R_mono (Kd.R_told (Kd.R_told (Kd.R_old (by (with_reducible repeat (first | apply Kd.R_alloc | apply Kd.R_drewN | apply Kd.R_drew)); exact HO_5.out) hb) (Kd.R_base ho0)) (Kd.R_base ho1)) (fun _ h_ => h_.1)); have n1_ := Aside0.mk (Kd.R_mono (Kd.R_told (Kd.R_told (Kd.R_old (by (with_reducible repeat (first | apply Kd.R_alloc | apply Kd.R_drewN | apply Kd.R_drew)); exact HO_7.out) hb) (Kd.R_base ho0)) (Kd.R_base ho1)) (fun _ h_ => h_.1)); have n2_ := Aside0.mk (Kd.R_mono (Kd.R_told (Kd.R_told (Kd.R_old (by (with_reducible repeat (first | apply Kd.R_alloc | apply Kd.R_drewN | apply Kd.R_drew)); exact HO_8.out) hb) (Kd.R_base ho0)) (Kd.R_base ho1)) (fun _ h_ => h_.1)); have n3_ := Aside0.mk (Kd.R_lower (Kd.R_newB (Kd.R_new' (Kd.R_new' (Kd.R_new' ho0 (Kd.R_lt (by (with_reducible repeat (first | apply Kd.R_alloc | apply Kd.R_drewN | apply Kd.R_drew)); exact HO_5.out))) (Kd.R_lt (by (with_reducible repeat (first | apply Kd.R_alloc | apply Kd.R_drewN | apply Kd.R_drew)); exact HO_7.out))) (Kd.R_lt (by (with_reducible repeat (first | apply Kd.R_alloc | apply Kd.R_drewN | apply Kd.R_drew)); exact HO_8.out))) (g := gb220) (o := .cells #[.int .i64 a1_0, .int .i64 a1_1, .int .i64 a1_2] 33 (0, 0)) (by (with_reducible repeat (first | refine blk_drewN ?_ _ | refine blk_drew ?_ | refine blk_alloc ?_ _)); exact BK220.out)) (below_size (by repeat (first | (with_reducible first | exact HB.out | apply below_alloc | apply pw_below_drewN | apply below_drew1 | refine below_set ?_ GE220.out) | exact HB.out)))); have n4_ := Aside0.mk (Kd.R_lower (Kd.R_newB (Kd.R_new' (Kd.R_new' (Kd.R_new' ho1 (Kd.R_lt (by (with_reducible repeat (first | apply Kd.R_alloc | apply Kd.R_drewN | apply Kd.R_drew)); exact HO_5.out))) (Kd.R_lt (by (with_reducible repeat (first | apply Kd.R_alloc | apply Kd.R_drewN | apply Kd.R_drew)); exact HO_7.out))) (Kd.R_lt (by (with_reducible repeat (first | apply Kd.R_alloc | apply Kd.R_drewN | apply Kd.R_drew)); exact HO_8.out))) (g := gb220) (o := .cells #[.int .i64 a1_0, .int .i64 a1_1, .int .i64 a1_2] 33 (0, 0)) (by (with_reducible repeat (first | refine blk_drewN ?_ _ | refine blk_drew ?_ | refine blk_alloc ?_ _)); exact BK220.out)) (below_size (by repeat (first | (with_reducible first | exact HB.out | apply below_alloc | apply pw_below_drewN | apply below_drew1 | refine below_set ?_ GE220.out) | exact HB.out)))); have n5_ := Aside0.mk (blk_below (g := gb220) (o := .cells #[.int .i64 a1_0, .int .i64 a1_1, .int .i64 a1_2] 33 (0, 0)) (by (with_reducible repeat (first | refine blk_drewN ?_ _ | refine blk_drew ?_ | refine blk_alloc ?_ _)); exact BK220.out) hb); have n6_ := Aside0.mk (below_step (by repeat (first | (with_reducible first | exact HB.out | apply below_alloc | apply pw_below_drewN | apply below_drew1 | refine below_set ?_ GE220.out) | exact HB.out)) hb); clear HO_5; clear HO_7; clear HO_8; clear BK220; clear HB; have HO_5 := n0_; have HO_7 := n1_; have HO_8 := n2_; have HO249 := n3_; have HO252 := n4_; have BK220 := n5_; have HB := n6_; clear n0_ n1_ n2_ n3_ n4_ n5_ n6_; (try clear hb); (try clear hb2); (try clear hk); (try clear hi); (try clear ho0); (try clear ho1)))
             go_ret
             exact ⟨by first | rfl | (simp [errW_none, errW_some] <;> rfl) | (simp [*, errW_none, errW_some] <;> rfl), by repeat (first | (with_reducible first | exact HB.out | apply below_alloc | apply pw_below_drewN | apply below_drew1 | refine below_set ?_ GE220.out) | exact HB.out)⟩
           ·
            rw [if_neg c37] at H
            exact absurd H (by simp)
          ·
           rw [if_neg c36] at H
           have c36b0 : decide (x12_3 < (t231.length : Int)) = false := decide_eq_false c36
           clear c36
           replace H := Option.bind_eq_some_iff.mp H
           obtain ⟨t254, A460, H⟩ := H
           replace H : (some t254) = some r := H
           have A46 := Aside0.mk A460
           clear A460
           obtain rfl := Option.some.inj H
           obtain ⟨Ao47, co47, eo47⟩ := Kd.R_slice HO_8.out
           subst eo47
           obtain ⟨Ao48, co48, eo48⟩ := Kd.R_slice HO_7.out
           subst eo48
           obtain ⟨Ao49, co49, eo49⟩ := Kd.R_slice HO_5.out
           subst eo49
           go_wp2_with (first | ((with_reducible refine gate_callee (f := 15) rfl ?_); refine goesL_ (some 84) rfl rfl Try.func15 (by kernel_rfl) rfl #[.slice Ao48 x7_3.length co48, .slice Ao49 t224.length co49] rfl (by (try simp only [List.map_toArray, List.map_cons, List.map_nil]); first | done | rfl | (simp only [List.length_drop, List.length_take]; rfl)) ?_; (with_reducible refine (tegularef32_Same.calls k3 _ _ x7_3 _ _ t224 t254 _ ?side1 ?side2 ?side3 ?side4 A46.out).mono ?_); (case side1 => repeat (first | exact (Kd.R_reads' HO_7.out).2.2 | (with_reducible refine Kd.C_alloc ?_ _) | (with_reducible refine Kd.C_drewN ?_ _) | (with_reducible refine Kd.C_drew ?_))); (case side2 => exact (Kd.R_reads' HO_7.out).2.1); (case side3 => repeat (first | exact (Kd.R_reads' HO_5.out).2.2 | (with_reducible refine Kd.C_alloc ?_ _) | (with_reducible refine Kd.C_drewN ?_ _) | (with_reducible refine Kd.C_drew ?_))); (case side4 => exact (Kd.R_reads' HO_5.out).2.1); rintro e w' ⟨rfl, ⟨nd, rfl⟩⟩; refine ⟨_, rfl, ?_⟩))
           go_ret
           exact ⟨by first | rfl | (simp [errW_none, errW_some] <;> rfl) | (simp [*, errW_none, errW_some] <;> rfl), by repeat (first | (with_reducible first | exact HB.out | apply below_alloc | apply pw_below_drewN | apply below_drew1 | refine below_set ?_ GE220.out) | exact HB.out)⟩
 ·
  replace c4 := Bool.eq_false_iff.mpr c4
  subst c4
  have H1 : (some false) = some r := by rw [if_neg (show ¬ (false = true) by decide)] at H; exact H
  clear H
  have H := H1
  clear H1
  obtain rfl := Option.some.inj H
  go_enter Try.func8, Try.ntmps8
  go_wp2_with (first | ((with_reducible refine gate_dst (N := 3) rfl ?_); (try (refine gate_guard (by rfl) ?_; dsimp only)); refine box_event ?hg (N := 3) ?hd (cs := #[.int .i64 a1_0, .int .i64 a1_1, .int .i64 a1_2]) (t := 33) ?hr ?_; (case hd => rfl); (case hg => rfl); (case hr => first | (go_simp; done) | (go_simp; rfl)); intro gb220 hg w50 hbox hb; have n0_ := Aside0.mk (below_step (by repeat (first | (with_reducible first | exact HB.out | apply below_alloc | apply pw_below_drewN | apply below_drew1) | exact HB.out)) hb); have n1_ := Aside0.mk (hbox); have n2_ := Aside0.mk ((by rw [hg]; exact (below_size (by repeat (first | (with_reducible first | exact HB.out | apply below_alloc | apply pw_below_drewN | apply below_drew1) | exact HB.out))) : w.heap.size ≤ gb220)); have n3_ := Aside0.mk ((by rw [hg]; exact (below_size (by repeat (first | (with_reducible first | exact HB.out | apply below_alloc | apply pw_below_drewN | apply below_drew1) | exact HB.out))) : w.heap.size ≤ gb220)); clear HB; have HB := n0_; have BK220 := n1_; have GW220 := n2_; have GE220 := n3_; clear n0_ n1_ n2_ n3_; clear hb hbox hg) | ((with_reducible refine gate_callee (f := 11) rfl ?_); refine goesL_ (some 14) rfl rfl Try.func11 (by kernel_rfl) rfl #[] rfl (by (try simp only [List.map_toArray, List.map_cons, List.map_nil]); first | done | rfl | (simp only [List.length_drop, List.length_take]; rfl)) ?_; (with_reducible refine (tegulalaw32_awake.calls k  false _ A3.out).mono ?_); rintro e w51 ⟨rfl, hb⟩; refine ⟨_, rfl, ?_⟩; have n0_ := Aside0.mk (blk_below (g := gb220) (o := .cells #[.int .i64 a1_0, .int .i64 a1_1, .int .i64 a1_2] 33 (0, 0)) (by (with_reducible repeat (first | refine blk_drewN ?_ _ | refine blk_drew ?_ | refine blk_alloc ?_ _)); exact BK220.out) hb); have n1_ := Aside0.mk (below_step (by repeat (first | (with_reducible first | exact HB.out | apply below_alloc | apply pw_below_drewN | apply below_drew1 | refine below_set ?_ GE220.out) | exact HB.out)) hb); clear BK220; clear HB; have BK220 := n0_; have HB := n1_; clear n0_ n1_; (try clear hb); (try clear hb2); (try clear hk); (try clear hi)))
  go_ret
  exact ⟨by first | rfl | (simp [errW_none, errW_some] <;> rfl) | (simp [*, errW_none, errW_some] <;> rfl), by repeat (first | (with_reducible first | exact HB.out | apply below_alloc | apply pw_below_drewN | apply below_drew1 | refine below_set ?_ GE220.out) | exact HB.out)⟩

end Go.Proofs.Ytcgihjpnemnkeaa.PExtentRestores
