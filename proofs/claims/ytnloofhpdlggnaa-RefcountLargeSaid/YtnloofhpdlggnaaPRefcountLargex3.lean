-- Written for this claim by a program of this session (wip/), out of the translation's own print: Lean checks it
import Derived.Test.YtnloofhpdlggnaaPRefcountLargex0
import Derived.WalkSpells
import Derived.Deep.LoopGhost
import Derived.Shelf.GgSortFunc.InsertionK
import Derived.Shelf.SlSortCmp.WholeK
import Derived.Shelf.SlSortCmp.NoneTotal
import Derived.Test.YtnloofhpdlggnaaLayP
import Derived.Test.YtnloofhpdlggnaaWRepsOne
import Derived.Test.YtnloofhpdlggnaaPRefcountLargex2
namespace Go.Proofs.Ytnloofhpdlggnaa.PRefcountLarge
open Go.RowKit Go.Proofs.YtnloofhpdlggnaaW.PrintWords Go.Proofs.YtnloofhpdlggnaaW.PrintLast Go.Proofs.YtnloofhpdlggnaaW.PrintMore
attribute [local go_sem] max2_int min2_int max_two min_two max_three min_three max_four min_four   -- for this text's walks alone
set_option linter.unusedVariables false
set_option linter.unusedSimpArgs false

-- MAKES
set_option maxHeartbeats 1000000 in
/-- Runs' first closure at a valid extent. -/
theorem improper_calls (a b c : Int) (w : World) (h : extent_proper.f a b c = some true) :
  Calls Try.prog 49 #[.agg #[.int .i64 a, .int .i64 b, .int .i64 c]] w fun e w' => e = .returned (.bool false) ∧ Below w.heap.size w w' := by
 have hu41 := Try.underlying41
 have HH := Aside0.mk h
 clear h
 go_enter Try.func49, Try.ntmps49
 go_wp2_with fail
 refine (extent_proper.calls a b c true _ HH.out).mono ?_
 rintro e w1 ⟨rfl, hb⟩
 have HB := Aside0.mk hb
 clear hb
 go_wp2_with fail
 go_ret
 exact ⟨rfl, ((Below.refl _ _).alloc (Nat.le_refl _) _).trans (HB.out.mono (by simp))⟩

set_option maxHeartbeats 2000000 in
theorem index_none (A : Option Addr) (c : Nat) (l : List S41) (w : World) (hC : Kd.C k41 w A l.length l) (hl : l.length ≤ 1000000000) (ho : ∀ x ∈ l, extent_proper.f x.f0 x.f1 x.f2 = some true) :
  Calls Try.prog 54 #[.slice A l.length c, .func (.func 49) #[] #[]] w fun e w' => e = .returned (.int .i64 (-1)) ∧ Below w.heap.size w w' := by
 have hu41 := Try.underlying41
 have hu32 := Try.underlying32
 have hc41 : Try.prog.cellsOf 41 = 3 := by kernel_rfl
 have HC := Aside0.mk (cells_at hC rfl)
 have HO := Aside0.mk ho
 clear hC ho
 obtain ⟨n, hn⟩ : ∃ n, n = l.length := ⟨_, rfl⟩
 rw [← hn] at hl ⊢
 have HN := Aside0.mk hn
 clear hn
 go_enter Try.func54, Try.ntmps54
 go_wp2
 go_loopg [5, 8] n (fun gg _ s8 wr => ∃ kk : Nat, kk ≤ n ∧ n - kk ≤ gg ∧ s8 = .int .i64 kk ∧ Aside0 (Below w.heap.size w wr))
 case atStart => exact ⟨0, Nat.zero_le _, by omega, rfl, ⟨Below.refl _ w⟩⟩
 case round =>
  obtain ⟨kk, hkk, hg, rfl, BW⟩ := hrel
  by_cases hlt : kk < n
  ·
   have hltz : (kk : Int) < (n : Int) := by omega
   have hkl : kk < l.length := by rw [← HN.out]; exact hlt
   obtain ⟨ad, rfl, hgw, c0, c1, c2⟩ := HC.out kk hkl
   have hbl : (ad.add (kk * 3)).block = ad.block := by unfold Addr.add; split <;> rfl
   have d0 : wr.cell? (ad.add (kk * 3)) = some (.int .i64 (l[kk]).f0) := (BW.out.cell (p := ad.add (kk * 3)) (by rw [hbl]; exact hgw)).trans c0
   have d1 : wr.cell? ⟨(ad.add (kk * 3)).block, (ad.add (kk * 3)).off + 1, none⟩ = some (.int .i64 (l[kk]).f1) := (BW.out.cell (p := ⟨(ad.add (kk * 3)).block, _, none⟩) (by rw [hbl]; exact hgw)).trans c1
   have d2 : wr.cell? ⟨(ad.add (kk * 3)).block, (ad.add (kk * 3)).off + 2, none⟩ = some (.int .i64 (l[kk]).f2) := (BW.out.cell (p := ⟨(ad.add (kk * 3)).block, _, none⟩) (by rw [hbl]; exact hgw)).trans c2
   have hx := HO.out l[kk] (List.getElem_mem hkl)
   clear c0 c1 c2 hbl
   generalize l[kk] = y at d0 d1 d2 hx
   obtain ⟨y0, y1, y2⟩ := y
   have hcall := improper_calls y0 y1 y2 wr hx
   clear hx
   go_wp2_with fail
   refine hcall.mono ?_
   clear hcall d0 d1 d2
   rintro e w' ⟨rfl, hb'⟩
   have HBB := Aside0.mk hb'
   clear hb'
   go_wp2_with fail
   go_roundg (n - (kk + 1))
   case measure => omega
   case rel => exact ⟨kk + 1, by omega, by omega, by go_num, ⟨BW.out.trans (HBB.out.mono BW.out.size)⟩⟩
  ·
   go_wp2
   go_ret
   exact ⟨rfl, BW.out⟩

set_option maxHeartbeats 2000000 in
/-- slices.DeleteFunc of what is not valid, where all is valid. -/
theorem delete_none (A : Option Addr) (c : Nat) (l : List S41) (w : World) (hC : Kd.C k41 w A l.length l) (hl : l.length ≤ 1000000000) (ho : ∀ x ∈ l, extent_proper.f x.f0 x.f1 x.f2 = some true) :
  Calls Try.prog 47 #[.slice A l.length c, .func (.func 49) #[] #[]] w fun e w' => e = .returned (.slice A l.length c) ∧ Below w.heap.size w w' := by
 have hu41 := Try.underlying41
 have hu32 := Try.underlying32
 have HI := Aside0.mk (index_none A c l w hC hl ho)
 clear hC ho
 go_enter Try.func47, Try.ntmps47
 go_wp2_with fail
 refine HI.out.mono ?_
 rintro e w1 ⟨rfl, hb⟩
 have HB := Aside0.mk hb
 clear hb
 go_wp2_with fail
 go_ret
 exact ⟨rfl, HB.out⟩

instance : Inhabited S41 := ⟨z41⟩
theorem flat_get : ∀ (l : List S41) (t : Nat), t < l.length * 3 → (l.flatMap encE)[t]? = some ((encE (l[t / 3]!))[t % 3]!)
 | [], t, h => by simp at h
 | x :: l, t, h => by
  rw [List.flatMap_cons]
  by_cases h3 : t < 3
  ·
   rw [List.getElem?_append_left (by simpa [encE] using h3), show t / 3 = 0 by omega]
   match t, h3 with
   | 0, _ => rfl
   | 1, _ => rfl
   | 2, _ => rfl
  ·
   rw [List.getElem?_append_right (by simp [encE]; omega), show (encE x).length = 3 from rfl, flat_get l (t - 3) (by simp at h; omega), show t / 3 = (t - 3) / 3 + 1 by omega, show t % 3 = (t - 3) % 3 by omega]
   simp
theorem flatK_enc (d : Array S41) : Go.Sort.flatK encE 3 d = (d.toList.flatMap encE).toArray := by
 apply Array.ext
 ·
  rw [Go.Sort.size_flatK]; show _ = (d.toList.flatMap encE).length; rw [encE_len, Array.length_toList]
 ·
  intro t h1 h2
  have ht : t < d.size * 3 := by simpa using h1
  have e1 := Go.Sort.get_flatK encE 3 d t ht
  rw [getElem!_pos _ t h1] at e1
  rw [e1]
  have e2 := flat_get d.toList t (by simpa using ht)
  have e3 : (d.toList.flatMap encE).toArray[t]? = some ((encE (d.toList[t / 3]!))[t % 3]!) := by simpa using e2
  rw [Array.getElem?_eq_getElem h2] at e3
  have e4 := Option.some.inj e3
  rw [e4]
  congr 2
  have hd : t / 3 < d.size := by omega
  rw [getElem!_pos d _ hd, getElem!_pos d.toList _ (by simpa using hd)]
  simp
/-- What a row of extents holds, in the sort's words. -/
theorem holds_row {w : World} {g : Nat} {cur : Array Value} {t : TypeId} {l : List S41} (hg : w.heap[g]? = some (.cells cur t (0, 0))) (hc : cur.toList.take (l.length * 3) = l.flatMap encE) : Go.Sort.HoldsK encE 3 w g 0 l.toArray := by
 intro j hj
 have hj' : j < l.length * 3 := by simpa using hj
 rw [flatK_enc]
 simp only [Nat.zero_add, id]
 have h1 : (l.flatMap encE)[j]? = cur[j]? := by rw [← hc, List.getElem?_take, if_pos hj']; simp
 have h2 := flat_get l j hj'
 refine ⟨?_, by simp [World.frozen?, hg]⟩
 have h3 : w.cell? ⟨g, j, none⟩ = cur[j]? := by simp [World.cell?, hg]
 rw [h3, ← h1]
 have h4 : j < (l.flatMap encE).length := by rw [encE_len]; exact hj'
 have h5 : (l.flatMap encE).toArray[j]! = (l.flatMap encE)[j] := by rw [getElem!_pos _ j (by rw [List.size_toArray]; exact h4)]; simp
 rw [List.getElem?_eq_getElem h4, h5]
/-- .. and back: the row that the sort leaves. -/
theorem row_sorted {w : World} {g n m : Nat} {cur : Array Value} {t : TypeId} {d : Array S41} {os : Array Obj} (hg : w.heap[g]? = some (.cells cur t (0, 0))) (hd : d.size = n) (hn : n * 3 ≤ cur.size) :
  ∃ cur' : Array Value, (sortWorldK encE 3 w g 0 m d os).heap[g]? = some (.cells cur' t (0, 0)) ∧ cur'.size = cur.size ∧ cur'.toList.take (n * 3) = d.toList.flatMap encE := by
 have hlt : g < w.heap.size := (Array.getElem?_eq_some_iff.1 hg).1
 have hfs : (Go.Sort.flatK encE 3 d).size = n * 3 := by simp [hd]
 refine ⟨Go.Sort.putCells id 0 (Go.Sort.flatK encE 3 d) cur, ?_, by simp [Go.Sort.putCells], ?_⟩
 ·
  show ((w.heap.modify g (Go.Sort.onCells _)) ++ os)[g]? = _
  rw [Array.getElem?_append_left (by simpa using hlt), Array.getElem?_modify, if_pos rfl, hg]
  rfl
 ·
  apply List.ext_getElem?
  intro j
  by_cases hj : j < n * 3
  ·
   rw [List.getElem?_take, if_pos hj]
   have h1 : (d.toList.flatMap encE).toArray[j]? = (d.toList.flatMap encE)[j]? := by simp
   rw [← h1, ← flatK_enc]
   rw [Array.getElem?_toList]
   simp only [Go.Sort.putCells, Array.getElem?_mapIdx]
   rw [Array.getElem?_eq_getElem (show j < cur.size by omega), Array.getElem?_eq_getElem (by omega)]
   simp only [Option.map_some, Nat.zero_le, Nat.zero_add, true_and, id, Nat.sub_zero]
   rw [if_pos (by omega), getElem!_pos _ j (by omega)]
  ·
   rw [List.getElem?_take, if_neg hj, List.getElem?_eq_none]
   rw [encE_len]; simp; omega
theorem sorted_grown {w : World} {g m : Nat} {d : Array S41} {os : Array Obj} : w.grownBy (sortWorldK encE 3 w g 0 m d os) (some g) := by
 refine ⟨rfl, rfl, rfl, ?_, ?_⟩
 ·
  show w.heap.size ≤ ((w.heap.modify g (Go.Sort.onCells _)) ++ os).size
  simp
 ·
  intro k hk hne
  show ((w.heap.modify g (Go.Sort.onCells _)) ++ os)[k]? = _
  rw [Array.getElem?_append_left (by simpa using hk), Array.getElem?_modify, if_neg (fun e => hne (by rw [e]))]
open Go.Sort in
def cmpE (x y : Int) : Int := if x < y then -1 else if y < x then 1 else 0
set_option maxHeartbeats 1000000 in
theorem cmp_calls (x y : Int) (w : World) : Calls Try.prog 53 #[.int .i64 x, .int .i64 y] w fun e w' => e = .returned (.int .i64 (cmpE x y)) ∧ w' = w := by
 have hx : (x != x) = false := by simp
 have hy : (y != y) = false := by simp
 rcases Int.lt_trichotomy x y with h | h | h
 ·
  have e : cmpE x y = -1 := by unfold cmpE; rw [if_pos h]
  rw [e]
  go_enter Try.func53, Try.ntmps53
  go_wp2
  go_ret
  exact ⟨rfl, rfl⟩
 ·
  subst h
  have e : cmpE x x = 0 := by unfold cmpE; rw [if_neg (Int.lt_irrefl _), if_neg (Int.lt_irrefl _)]
  rw [e]
  go_enter Try.func53, Try.ntmps53
  go_wp2
  go_ret
  exact ⟨rfl, rfl⟩
 ·
  have e : cmpE x y = 1 := by unfold cmpE; rw [if_neg (by omega), if_pos h]
  have h1 : ¬ x < y := by omega
  rw [e]
  go_enter Try.func53, Try.ntmps53
  go_wp2
  go_ret
  exact ⟨rfl, rfl⟩
set_option maxHeartbeats 1000000 in
/-- Runs' second closure. -/
theorem order_calls (x y : S41) (W : World) : Calls Try.prog 52 #[.agg #[.int .i64 x.f0, .int .i64 x.f1, .int .i64 x.f2], .agg #[.int .i64 y.f0, .int .i64 y.f1, .int .i64 y.f2]] W fun e w' => e = .returned (.int .i64 (cmpE x.f2 y.f2)) ∧ ∃ q os', w' = Go.Sort.grow (W.drewN q) os' := by
 have hcon := fun W' => cmp_calls x.f2 y.f2 W'
 obtain ⟨x0, x1, x2⟩ := x
 obtain ⟨y0, y1, y2⟩ := y
 simp only at hcon ⊢
 generalize cmpE x2 y2 = r at hcon ⊢
 have HH := Aside0.mk hcon
 clear hcon
 have hu41 := Try.underlying41
 go_enter Try.func52, Try.ntmps52
 go_wp2_with (go_at_call 53; refine (HH.out _).mono ?_; rintro e w' ⟨rfl, rfl⟩)
 go_ret
 exact ⟨rfl, 0, _, by rw [Go.Sort.alloc_eq_grow, Go.Sort.alloc_eq_grow, Go.Sort.grow_grow]; rfl⟩
theorem ltE (x y : S41) : ltOf (fun x y : S41 => cmpE x.f2 y.f2) x y = decide (x.f2 < y.f2) := by
 unfold ltOf cmpE
 by_cases h : x.f2 < y.f2
 ·
  simp [h]
 ·
  by_cases h2 : y.f2 < x.f2 <;> simp [h, h2]
theorem swoE : Go.Sort.SWO (ltOf fun x y : S41 => cmpE x.f2 y.f2) where
 irrefl x := by rw [ltE]; simp
 trans x y z h1 h2 := by rw [ltE] at *; simp at *; omega
 ntrans x y z h1 h2 := by rw [ltE] at *; simp at *; omega
theorem aggE (w : World) : (isAgg 41).run Try.prog w = .ok true w := by kernel_rfl
theorem sizeE (w : World) : (Go.sizeOf 41).run Try.prog w = .ok 3 w := by kernel_rfl
/-- What slices.SortFunc makes of a list. -/
def sortL (l : List S41) : List S41 := (Go.Sort.pdq (ltOf fun x y : S41 => cmpE x.f2 y.f2) l.toArray 0 l.toArray.size (Lib.bitLen l.toArray.size) true true).toList
theorem sortL_facts (l : List S41) : (sortL l).Perm l ∧ (sortL l).Pairwise (fun a b => a.f2 ≤ b.f2) := by
 obtain ⟨⟨hp1, _, hp3⟩, hs⟩ := Go.Sort.pdq_sorts (ltOf fun x y : S41 => cmpE x.f2 y.f2) swoE l.toArray 0 l.toArray.size (Lib.bitLen l.toArray.size) true true (Nat.zero_le _) (Nat.le_refl _) (Or.inl rfl)
 unfold sortL
 generalize Go.Sort.pdq (ltOf fun x y : S41 => cmpE x.f2 y.f2) l.toArray 0 l.toArray.size (Lib.bitLen l.toArray.size) true true = d' at *
 refine ⟨?_, ?_⟩
 ·
  have e1 : d'.extract 0 l.toArray.size = d' := by rw [← hp1]; exact Array.extract_size
  have e2 : l.toArray.extract 0 l.toArray.size = l.toArray := Array.extract_size
  rw [e1, e2] at hp3
  simpa using hp3
 ·
  rw [List.pairwise_iff_getElem]
  intro i j hi hj hij
  have := hs i j (Nat.zero_le _) hij (by rw [← hp1]; simpa using hj)
  rw [ltE] at this
  simp only [decide_eq_false_iff_not] at this
  have hi' : i < d'.size := by simpa using hi
  have hj' : j < d'.size := by simpa using hj
  rw [getElem!_pos d' i hi', getElem!_pos d' j hj'] at this
  simp only [Array.getElem_toList]
  omega
theorem sortL_length (l : List S41) : (sortL l).length = l.length := (sortL_facts l).1.length_eq
/-- slices.SortFunc by the slots, on a row of the call's own. -/
theorem sort_calls (v : Value) (l : List S41) (w : World) (base : Nat) (ok : Nat → Prop) (h : Kd.R k41 41 w base ok v l) (hl : l.length ≤ 1000000000) :
  Calls Try.prog 51 #[v, .func (.func 52) #[] #[]] w fun e w' => e = .returned (.tuple #[]) ∧ Kd.R k41 41 w' base ok v (sortL l) ∧ w.grownBy w' v.ownBlock := by
 have hd0 := sortL_length l
 obtain ⟨h0, inner, hown, hr⟩ := h
 have hinner := reps_enc hr
 subst hinner
 rcases hown.2 with ⟨rfl, hn0⟩ | ⟨g, cap, cur, rfl, hbg, hg, hnc, hcm, hcs, hct⟩
 ·
  have hn : l = [] := List.eq_nil_of_length_eq_zero hn0
  subst hn
  have hS := AnyF.slices_SortFunc_none (P := Try.prog) (ρ := Try.sortE_ren) Try.sortE none 0 (.func (.func 52) #[] #[]) w
  change Calls Try.prog 51 _ _ _ at hS
  have hn : sortL [] = [] := List.eq_nil_of_length_eq_zero hd0
  rw [hn]
  refine hS.mono ?_
  rintro e w' ⟨rfl, rfl⟩
  exact ⟨rfl, Kd.R_nil _ _ _ _ _, ⟨rfl, rfl, rfl, Nat.le_refl _, fun _ _ _ => rfl⟩⟩
 ·
  have hgw : g < w.heap.size := (Array.getElem?_eq_some_iff.1 hg).1
  have eg : ∀ args w, (callFunc 52 args).run Try.prog w = .ok (.enter 52 args) w := enters_of Try.func52 (by kernel_rfl) rfl
  have hS := AnyQ.slices_SortFunc_eq Try.sortE 3 aggE sizeE encE (fun _ => rfl) (fun x v hv => by simp [encE] at hv; rcases hv with rfl | rfl | rfl <;> rfl) (fun x y : S41 => cmpE x.f2 y.f2) swoE 52 #[] g 0 cap l.toArray w eg (fun _ _ _ _ x y => order_calls x y _) (holds_row hg hct) hgw (by simp; omega)
  change Calls Try.prog 51 _ _ _ at hS
  have es : (Go.Sort.pdq (ltOf fun x y : S41 => cmpE x.f2 y.f2) l.toArray 0 l.toArray.size (Lib.bitLen l.toArray.size) true true) = (sortL l).toArray := by unfold sortL; simp
  rw [es] at hS
  generalize sortL l = l' at *
  rw [List.size_toArray] at hS
  refine hS.mono ?_
  rintro e w' ⟨rfl, n, os, rfl⟩
  have hd : l'.toArray.size = l.length := by simpa using hd0
  have hcs' : cur.size = cap * 3 := hcs
  obtain ⟨cur', hg', hs', ht'⟩ := row_sorted (m := n) (d := l'.toArray) (os := os) hg hd (by omega)
  have hsz : k41.sz = 3 := rfl
  refine ⟨rfl, ⟨h0, l'.flatMap encE, ⟨by rw [encE_len, hsz], .inr ⟨g, cap, cur', ?_, hbg, hg', by omega, hcm, ?_, ?_⟩⟩, enc_reps _⟩, sorted_grown⟩
  ·
   rw [hd0]
  ·
   rw [hs']; exact hcs
  ·
   rw [hd0]; exact ht'
/-- slices.DeleteFunc on a row of the call's own, where all is valid. -/
theorem delete_row (v : Value) (l : List S41) (w : World) (base : Nat) (ok : Nat → Prop) (h : Kd.R k41 41 w base ok v l) (hl : l.length ≤ 1000000000) (ho : ∀ x ∈ l, extent_proper.f x.f0 x.f1 x.f2 = some true) :
  Calls Try.prog 47 #[v, .func (.func 49) #[] #[]] w fun e w' => e = .returned v ∧ Below w.heap.size w w' := by
 obtain ⟨A, c, rfl, _, hC⟩ := Kd.R_reads h
 exact delete_none A c l w hC hl ho
theorem below_sorted {b : Nat} {w0 w w' : World} {v : Value} {l : List S41} {ok : Nat → Prop} (hb : Below b w0 w) (h : Kd.R k41 41 w b ok v l) (hg : w.grownBy w' v.ownBlock) (hs : b ≤ w.heap.size) : Below b w0 w' := by
 obtain ⟨h0, inner, hown, hr⟩ := h
 exact hb.grown hg hs (fun k_ hk => own_base hown k_ hk)
/-- slices.Clone, slices.DeleteFunc and slices.SortFunc, as Runs calls them one behind the other, where all extents are valid. -/
def api_Extent_47.f (l : List S41) : Option (List S41) := if l.length ≤ 1000000000 ∧ (∀ x ∈ l, extent_proper.f x.f0 x.f1 x.f2 = some true) then some (sortL l) else none
theorem api_Extent_47.told {l r : List S41} (h : api_Extent_47.f l = some r) : l.length ≤ 1000000000 ∧ (∀ x ∈ l, extent_proper.f x.f0 x.f1 x.f2 = some true) ∧ r = sortL l := by
 unfold api_Extent_47.f at h
 split at h
 ·
  rename_i hc
  exact ⟨hc.1, hc.2, (Option.some.inj h).symm⟩
 ·
  cases h

-- NOT PRINTED: function 59 (api_Extent_59)

-- NOT PRINTED: function 69 (api_Extent_69)

-- NOT PRINTED: function 60 (api_Extent_60)

-- NOT PRINTED: function 67 (bits_Len32)

-- NOT PRINTED: function 68 (bits_Len64)

-- NOT PRINTED: function 57 (bits_Len)

-- NOT PRINTED: function 70 (slices_nextPowerOfTwo)

-- NOT PRINTED: function 71 (slices_xorshift_Next)

-- NOT PRINTED: function 61 (api_Extent_61)

-- NOT PRINTED: function 74 (api_Extent_74)

-- NOT PRINTED: function 73 (api_Extent_73)

-- NOT PRINTED: function 72 (api_Extent_72)

-- NOT PRINTED: function 62 (api_Extent_62)

-- NOT PRINTED: function 63 (api_Extent_63)

-- NOT PRINTED: function 64 (api_Extent_64)

-- NOT PRINTED: function 65 (api_Extent_65)

-- NOT PRINTED: function 66 (api_Extent_66)

-- NOT PRINTED: function 56 (api_Extent_56)

-- NOT PRINTED: function 51 (api_Extent_51)

end Go.Proofs.Ytnloofhpdlggnaa.PRefcountLarge
