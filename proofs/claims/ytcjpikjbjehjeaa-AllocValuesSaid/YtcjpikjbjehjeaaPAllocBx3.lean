-- Written for this claim by a program of this session (wip/), out of the translation's own print: Lean checks it
import Derived.Test.YtcjpikjbjehjeaaPAllocBx0
import Derived.WalkSpells
import Derived.Deep.LoopGhost
import Derived.Shelf.GgSortFunc.InsertionK
import Derived.Shelf.SlSortCmp.WholeK
import Derived.Shelf.SlSortCmp.NoneTotal
import Derived.Test.YtcjpikjbjehjeaaLayP
import Derived.Test.YtcjpikjbjehjeaaWRepsOne
import Derived.Test.YtcjpikjbjehjeaaPAllocBx2
namespace Go.Proofs.Ytcjpikjbjehjeaa.PAllocB
open Go.RowKit Go.Proofs.YtcjpikjbjehjeaaW.PrintWords Go.Proofs.YtcjpikjbjehjeaaW.PrintLast Go.Proofs.YtcjpikjbjehjeaaW.PrintMore
attribute [local go_sem] max2_int min2_int max_two min_two max_three min_three max_four min_four   -- for this text's walks alone
set_option linter.unusedVariables false
set_option linter.unusedSimpArgs false

-- MAKES
set_option maxHeartbeats 1000000 in
/-- Runs' first closure at a valid extent. -/
theorem improper_calls (a b c : Int) (w : World) (h : extent_proper.f a b c = some true) :
  Calls Try.prog 56 #[.agg #[.int .i64 a, .int .i64 b, .int .i64 c]] w fun e w' => e = .returned (.bool false) ∧ Below w.heap.size w w' := by
 have hu53 := Try.underlying53
 have HH := Aside0.mk h
 clear h
 go_enter Try.func56, Try.ntmps56
 go_wp2_with fail
 refine (extent_proper.calls a b c true _ HH.1).mono ?_
 rintro e w1 ⟨rfl, hb⟩
 have HB := Aside0.mk hb
 clear hb
 go_wp2_with fail
 go_ret
 exact ⟨rfl, ((Below.refl _ _).alloc (Nat.le_refl _) _).trans (HB.1.mono (by simp))⟩

set_option maxHeartbeats 2000000 in
theorem index_none (A : Option Addr) (c : Nat) (l : List S53) (w : World) (hC : Kd.C k53 w A l.length l) (hl : l.length ≤ 1000000000) (ho : ∀ x ∈ l, extent_proper.f x.f0 x.f1 x.f2 = some true) :
  Calls Try.prog 62 #[.slice A l.length c, .func (.func 56) #[] #[]] w fun e w' => e = .returned (.int .i64 (-1)) ∧ Below w.heap.size w w' := by
 have hu53 := Try.underlying53
 have hu24 := Try.underlying24
 have hc53 : Try.prog.cellsOf 53 = 3 := by kernel_rfl
 have HC := Aa (cells_at hC rfl)
 have HO := Aside0.mk ho
 clear hC ho
 obtain ⟨n, hn⟩ : ∃ n, n = l.length := ⟨_, rfl⟩
 rw [← hn] at hl ⊢
 have HN := Aside0.mk hn
 clear hn
 go_enter Try.func62, Try.ntmps62
 go_wp2
 go_loopg [5, 8] n (fun gg _ s8 wr => ∃ kk : Nat, kk ≤ n ∧ n - kk ≤ gg ∧ s8 = .int .i64 kk ∧ Aside0 (Below w.heap.size w wr))
 case atStart => exact ⟨0, Nat.zero_le _, by omega, rfl, ⟨Below.refl _ w⟩⟩
 case round =>
  obtain ⟨kk, hkk, hg, rfl, BW⟩ := hrel
  by_cases hlt : kk < n
  ·
   have hltz : (kk : Int) < (n : Int) := by omega
   have hkl : kk < l.length := by rw [← HN.1]; exact hlt
   obtain ⟨ad, rfl, hgw, c0, c1, c2⟩ := HC.1 kk hkl
   have hbl : (ad.add (kk * 3)).block = ad.block := by unfold Addr.add; split <;> rfl
   have d0 : wr.cell? (ad.add (kk * 3)) = some (.int .i64 (l[kk]).f0) := (BW.1.cell (p := ad.add (kk * 3)) (by rw [hbl]; exact hgw)).trans c0
   have d1 : wr.cell? ⟨(ad.add (kk * 3)).block, (ad.add (kk * 3)).off + 1, none⟩ = some (.int .i64 (l[kk]).f1) := (BW.1.cell (p := ⟨(ad.add (kk * 3)).block, _, none⟩) (by rw [hbl]; exact hgw)).trans c1
   have d2 : wr.cell? ⟨(ad.add (kk * 3)).block, (ad.add (kk * 3)).off + 2, none⟩ = some (.int .i64 (l[kk]).f2) := (BW.1.cell (p := ⟨(ad.add (kk * 3)).block, _, none⟩) (by rw [hbl]; exact hgw)).trans c2
   have hx := HO.1 l[kk] (List.getElem_mem hkl)
   clear c0 c1 c2 hbl
   generalize l[kk] = y at d0 d1 d2 hx
   obtain ⟨y0, y1, y2⟩ := y
   have hcall := improper_calls y0 y1 y2 wr hx
   clear hx
   go_wp2_with fail
   refine hcall.mono ?_
   clear hcall d0 d1 d2
   rintro e w' ⟨rfl, hb'⟩
   have HBB := Aside0.mk hb'
   clear hb'
   go_wp2_with fail
   go_roundg (n - (kk + 1))
   case measure => omega
   case rel => exact ⟨kk + 1, by omega, by omega, by go_num, ⟨BW.1.trans (HBB.1.mono BW.1.size)⟩⟩
  ·
   go_wp2
   go_ret
   exact ⟨rfl, BW.1⟩

set_option maxHeartbeats 2000000 in
/-- slices.DeleteFunc of what is not valid, where all is valid. -/
theorem delete_none (A : Option Addr) (c : Nat) (l : List S53) (w : World) (hC : Kd.C k53 w A l.length l) (hl : l.length ≤ 1000000000) (ho : ∀ x ∈ l, extent_proper.f x.f0 x.f1 x.f2 = some true) :
  Calls Try.prog 55 #[.slice A l.length c, .func (.func 56) #[] #[]] w fun e w' => e = .returned (.slice A l.length c) ∧ Below w.heap.size w w' := by
 have hu53 := Try.underlying53
 have hu24 := Try.underlying24
 have HI := Aa (index_none A c l w hC hl ho)
 clear hC ho
 go_enter Try.func55, Try.ntmps55
 go_wp2_with fail
 refine HI.1.mono ?_
 rintro e w1 ⟨rfl, hb⟩
 have HB := Aside0.mk hb
 clear hb
 go_wp2_with fail
 go_ret
 exact ⟨rfl, HB.1⟩

theorem within_some (a n m : Int) : ∃ p, extent_within.f a n m = some p := by
 unfold extent_within.f
 (repeat' split) <;> exact ⟨_, rfl⟩
theorem proper_some (a b c : Int) : ∃ p, extent_proper.f a b c = some p := by
 obtain ⟨p, hp⟩ := within_some a b 65536
 obtain ⟨q, hq⟩ := within_some c b 65536
 unfold extent_proper.f
 rw [hp, hq]
 simp only [Option.bind_some]
 (repeat' split) <;> exact ⟨_, rfl⟩
/-- An extent that is valid. -/
def propB (x : S53) : Bool := (extent_proper.f x.f0 x.f1 x.f2).getD false
theorem propB_eq (x : S53) : extent_proper.f x.f0 x.f1 x.f2 = some (propB x) := by
 obtain ⟨p, hp⟩ := proper_some x.f0 x.f1 x.f2
 unfold propB
 rw [hp]
 rfl
set_option maxHeartbeats 1000000 in
/-- Runs' first closure. -/
theorem improper_any (a b c : Int) (p : Bool) (w : World) (h : extent_proper.f a b c = some p) :
  Calls Try.prog 56 #[.agg #[.int .i64 a, .int .i64 b, .int .i64 c]] w fun e w' => e = .returned (.bool (!p)) ∧ Below w.heap.size w w' := by
 have hu53 := Try.underlying53
 have HH := Aside0.mk h
 clear h
 go_enter Try.func56, Try.ntmps56
 go_wp2_with fail
 refine (extent_proper.calls a b c p _ HH.1).mono ?_
 rintro e w1 ⟨rfl, hb⟩
 have HB := Aside0.mk hb
 clear hb
 go_wp2_with fail
 go_ret
 exact ⟨rfl, ((Below.refl _ _).alloc (Nat.le_refl _) _).trans (HB.1.mono (by simp))⟩
set_option maxHeartbeats 2000000 in
/-- slices.IndexFunc of what is not valid. -/
theorem index_some (A : Option Addr) (c : Nat) (l : List S53) (w : World) (hC : Kd.C k53 w A l.length l) (hl : l.length ≤ 1000000000) (i : Nat) (hi : i < l.length) (ho : ∀ (j : Nat) (hj : j < l.length), j < i → propB l[j] = true) (hb : propB l[i] = false) :
  Calls Try.prog 62 #[.slice A l.length c, .func (.func 56) #[] #[]] w fun e w' => e = .returned (.int .i64 i) ∧ Below w.heap.size w w' := by
 have hu53 := Try.underlying53
 have hu24 := Try.underlying24
 have hc53 : Try.prog.cellsOf 53 = 3 := by kernel_rfl
 have HC := Aa (cells_at hC rfl)
 have HO := Aside0.mk ho
 have HI := Aa (show ∃ h : i < l.length, propB l[i] = false from ⟨hi, hb⟩)
 clear hC ho hb
 obtain ⟨n, hn⟩ : ∃ n, n = l.length := ⟨_, rfl⟩
 rw [← hn] at hl hi ⊢
 have HN := Aside0.mk hn
 clear hn
 go_enter Try.func62, Try.ntmps62
 go_wp2
 go_loopg [5, 8] n (fun gg _ s8 wr => ∃ kk : Nat, kk ≤ i ∧ n - kk ≤ gg ∧ s8 = .int .i64 kk ∧ Aside0 (Below w.heap.size w wr))
 case atStart => exact ⟨0, Nat.zero_le _, by omega, rfl, ⟨Below.refl _ w⟩⟩
 case round =>
  obtain ⟨kk, hkk, hg, rfl, BW⟩ := hrel
  have hlt : kk < n := by omega
  have hltz : (kk : Int) < (n : Int) := by omega
  have hkl : kk < l.length := by rw [← HN.1]; exact hlt
  obtain ⟨ad, rfl, hgw, c0, c1, c2⟩ := HC.1 kk hkl
  have hbl : (ad.add (kk * 3)).block = ad.block := by unfold Addr.add; split <;> rfl
  have d0 : wr.cell? (ad.add (kk * 3)) = some (.int .i64 (l[kk]).f0) := (BW.1.cell (p := ad.add (kk * 3)) (by rw [hbl]; exact hgw)).trans c0
  have d1 : wr.cell? ⟨(ad.add (kk * 3)).block, (ad.add (kk * 3)).off + 1, none⟩ = some (.int .i64 (l[kk]).f1) := (BW.1.cell (p := ⟨(ad.add (kk * 3)).block, _, none⟩) (by rw [hbl]; exact hgw)).trans c1
  have d2 : wr.cell? ⟨(ad.add (kk * 3)).block, (ad.add (kk * 3)).off + 2, none⟩ = some (.int .i64 (l[kk]).f2) := (BW.1.cell (p := ⟨(ad.add (kk * 3)).block, _, none⟩) (by rw [hbl]; exact hgw)).trans c2
  clear c0 c1 c2 hbl
  by_cases hki : kk = i
  ·
   subst hki
   have hx : propB l[kk] = false := HI.1.2
   have hpe := propB_eq l[kk]
   rw [hx] at hpe
   generalize l[kk] = y at d0 d1 d2 hpe
   obtain ⟨y0, y1, y2⟩ := y
   have hcall := improper_any y0 y1 y2 false wr hpe
   clear hx hpe
   go_wp2_with fail
   refine hcall.mono ?_
   clear hcall d0 d1 d2
   rintro e w' ⟨rfl, hb'⟩
   have HBB := Aside0.mk hb'
   clear hb'
   go_wp2_with fail
   go_ret
   exact ⟨rfl, BW.1.trans (HBB.1.mono BW.1.size)⟩
  ·
   have hx := HO.1 kk hkl (by omega)
   have hpe := propB_eq l[kk]
   rw [hx] at hpe
   generalize l[kk] = y at d0 d1 d2 hpe
   obtain ⟨y0, y1, y2⟩ := y
   have hcall := improper_any y0 y1 y2 true wr hpe
   clear hx hpe
   go_wp2_with fail
   refine hcall.mono ?_
   clear hcall d0 d1 d2
   rintro e w' ⟨rfl, hb'⟩
   have HBB := Aside0.mk hb'
   clear hb'
   go_wp2_with fail
   go_roundg (n - (kk + 1))
   case measure => omega
   case rel => exact ⟨kk + 1, by omega, by omega, by go_num, ⟨BW.1.trans (HBB.1.mono BW.1.size)⟩⟩
theorem first_bad : ∀ l : List S53, (∀ x ∈ l, propB x = true) ∨ ∃ pre x post, l = pre ++ x :: post ∧ (∀ y ∈ pre, propB y = true) ∧ propB x = false
 | [] => .inl (by simp)
 | x :: l => by
  by_cases hx : propB x = true
  ·
   rcases first_bad l with h | ⟨pre, y, post, rfl, h1, h2⟩
   ·
    refine .inl fun y hy => ?_
    rcases List.mem_cons.1 hy with rfl | hy
    ·
     exact hx
    ·
     exact h y hy
   ·
    refine .inr ⟨x :: pre, y, post, rfl, fun z hz => ?_, h2⟩
    rcases List.mem_cons.1 hz with rfl | hz
    ·
     exact hx
    ·
     exact h1 z hz
  ·
   exact .inr ⟨[], x, l, rfl, by simp, Bool.eq_false_iff.2 hx⟩
/-- clear on a part of a row of extents. -/
theorem run_clear3 (w : World) (b o n c : Nat) (hn : 0 < n) (ty : TypeId) (cur : Array Value) (t : TypeId) (hg : w.heap[b]? = some (.cells cur t (0, 0))) (hle : o + n * 3 ≤ cur.size) :
  ∃ L : List Value, L.length = n * 3 ∧ (Builtin.clear_ #[24] ty #[.slice (some ⟨b, o, none⟩) n c]).run Try.prog w = .ok (.tuple #[]) (w.setCells b o L) := by
 have hv : ∀ w, (zeroValue 53).run Try.prog w = .ok (Value.agg #[.int .i64 0, .int .i64 0, .int .i64 0]) w := fun w => by kernel_rfl
 obtain ⟨L, hL⟩ : ∃ L, L = (Builtin.zeroCells (Value.agg #[.int .i64 0, .int .i64 0, .int .i64 0]).cells n).toList := ⟨_, rfl⟩
 have hl : L.length = n * 3 := by rw [hL]; simp [Builtin.zeroCells, Value.cells]
 have h1 : ∀ v ∈ L, v.oneCell' = true := fun v hv' => by
  rw [hL] at hv'
  simp [Builtin.zeroCells, Value.cells] at hv'
  obtain ⟨i, _, rfl⟩ := hv'
  have h3 : i % 3 = 0 ∨ i % 3 = 1 ∨ i % 3 = 2 := by omega
  rcases h3 with h | h | h <;> simp [h, Value.oneCell']
 have hst := run_storeCells_cells (P := Try.prog) b o L 0 w (fun j hj => by rw [cell_of_row w b _ cur t (0, 0) hg]; simp; omega) (fun j _ => blk_frozen hg _) h1
 simp only [Nat.add_zero] at hst
 refine ⟨L, hl, ?_⟩
 obtain ⟨m, rfl⟩ : ∃ m, n = m + 1 := ⟨n - 1, by omega⟩
 simp [Builtin.clear_, run_underlying Try.underlying24, hv, ← hL, hst]
theorem take_set_succ {α : Type} (row : List α) (m : Nat) (y : α) (h : m < row.length) : (row.set m y).take (m + 1) = row.take m ++ [y] := by
 rw [List.set_eq_take_append_cons_drop, if_pos h, List.take_append, List.length_take, Nat.min_eq_left (by omega), List.take_of_length_le (by rw [List.length_take]; omega), show m + 1 - m = 1 by omega]
 rfl
set_option maxHeartbeats 4000000 in
set_option maxRecDepth 100000 in
/-- slices.DeleteFunc of what is not valid, where something is: the row's own cells are written. -/
theorem delete_some (g c : Nat) (l : List S53) (w : World) (base : Nat) (ok : Nat → Prop) (h : Kd.R k53 53 w base ok (.slice (some ⟨g, 0, none⟩) l.length c) l) (hl : l.length ≤ 1000000000) (pre post : List S53) (x : S53) (hlx : l = pre ++ x :: post) (hpre : ∀ y ∈ pre, propB y = true) (hx : propB x = false) :
  Calls Try.prog 55 #[.slice (some ⟨g, 0, none⟩) l.length c, .func (.func 56) #[] #[]] w fun e w' => ∃ v', e = .returned v' ∧ Kd.R k53 53 w' base ok v' (l.filter propB) ∧ w.grownBy w' (some g) := by
 have hu53 := Try.underlying53
 have hu24 := Try.underlying24
 have hc53 : Try.prog.cellsOf 53 = 3 := by kernel_rfl
 have hlen : l.length = pre.length + 1 + post.length := by rw [hlx]; simp; omega
 have HI := Aa (index_some (some ⟨g, 0, none⟩) c l w (Kd.R_reads' h).2.2 hl pre.length (by omega) (fun j hj hji => by subst hlx; rw [List.getElem_append_left hji]; exact hpre _ (List.getElem_mem hji)) (by subst hlx; simp [hx]))
 have hst : ∃ kept todo row : List S53, row = l ∧ kept = pre ∧ todo = post ∧ row.take kept.length = kept ∧ row.drop (pre.length + 1) = todo ∧ kept ++ todo.filter propB = l.filter propB := by
  refine ⟨pre, post, l, rfl, rfl, rfl, by rw [hlx]; simp, by rw [hlx]; simp, ?_⟩
  rw [hlx, List.filter_append, List.filter_cons, hx, List.filter_eq_self.2 hpre]
  simp
 obtain ⟨kept0, todo0, row0, e1, e2, e3, hs1, hs2, hs3⟩ := hst
 have HO := Aside0.mk h
 obtain ⟨fl, hfl⟩ : ∃ fl, fl = l.filter propB := ⟨_, rfl⟩
 rw [← hfl] at hs3 ⊢
 obtain ⟨n, hn⟩ : ∃ n, n = l.length := ⟨_, rfl⟩
 rw [← hn] at hl ⊢
 obtain ⟨i0, hi0⟩ : ∃ i0, i0 = pre.length := ⟨_, rfl⟩
 have hin : i0 + 1 ≤ n := by omega
 have HS := Aa (show ∃ kept todo row : List S53, kept.length = i0 ∧ row = l ∧ row.take kept.length = kept ∧ row.drop (i0 + 1) = todo ∧ kept ++ todo.filter propB = fl from ⟨kept0, todo0, row0, by rw [e2, hi0], e1, hs1, by rw [hi0]; exact hs2, hs3⟩)
 rw [← hn, ← hi0] at HI
 have HN := Aside0.mk hn
 clear h hlx hpre hx hlen e1 e2 e3 hs1 hs2 hs3 hfl hn hi0
 have hz1 : ((i0 : Int) == -1) = false := by simp
 have hz2 : ¬ ((i0 : Int) = -1) := by omega
 go_enter Try.func55, Try.ntmps55
 go_wp2_with fail
 refine HI.1.mono ?_
 rintro e w1 ⟨rfl, hb⟩
 have HB := Aside0.mk hb
 clear hb
 go_wp2_with fail
 go_loopg [5, 6] n (fun gg s5 s6 wr => ∃ (kept todo row : List S53) (j : Nat), j ≤ n ∧ n - j ≤ gg ∧ s5 = .int .i64 (kept.length : Int) ∧ s6 = .int .i64 (j : Int) ∧ Aside0 (row.length = n ∧ row.take kept.length = kept ∧ row.drop j = todo ∧ kept.length < j ∧ kept ++ todo.filter propB = fl) ∧ Aside0 (Kd.R k53 53 wr base ok (.slice (some ⟨g, 0, none⟩) n c) row) ∧ Aside0 (w.grownBy wr (some g)))
 case atStart =>
  obtain ⟨kept, todo, row, q1, q2, q3, q4, q5⟩ := HS.1
  refine ⟨kept, todo, row, i0 + 1, hin, by omega, by rw [q1], by go_num, ⟨by rw [q2, HN.1], q3, q4, by omega, q5⟩, ⟨?_⟩, ⟨grown_of_below HB.1 _⟩⟩
  rw [q2, HN.1]
  exact Kd.R_below HO.1 HB.1
 case round =>
  clear HS HO HI
  obtain ⟨kept, todo, row, j, hj, hg, rfl, rfl, HD, HR, HG⟩ := hrel
  by_cases hlt : j < n
  ·
   have hltz : (j : Int) < (n : Int) := by omega
   have hrl : j < row.length := by rw [HD.1.1]; exact hlt
   obtain ⟨ad, e, d0, d1, d2⟩ := at_T53 (Kd.R_reads' HR.1).2.2 (j : Int) (by omega) (by omega)
   have hr : rd_T53 row (j : Int) = row[j] := by unfold rd_T53; rw [List.getD_eq_getElem?_getD, show (j : Int).toNat = j from by omega, List.getElem?_eq_getElem hrl]; rfl
   rw [hr, show (j : Int).toNat = j from by omega] at d0 d1 d2
   cases e
   obtain ⟨y, hy⟩ : ∃ y, y = row[j] := ⟨_, rfl⟩
   rw [← hy] at d0 d1 d2
   have HY := Aa (show ∃ h : j < row.length, y = row[j] from ⟨hrl, hy⟩)
   clear hr hy hrl
   obtain ⟨y0, y1, y2⟩ := y
   simp only [add_plain] at d0 d1 d2
   obtain ⟨p, hp⟩ : ∃ p, p = propB (⟨y0, y1, y2⟩ : S53) := ⟨_, rfl⟩
   have hpe := propB_eq (⟨y0, y1, y2⟩ : S53)
   rw [← hp] at hpe
   have HP := Aside0.mk hp
   have HC := Aa (fun W => improper_any y0 y1 y2 p W hpe)
   clear hpe hp
   go_wp2_with fail
   refine (HC.1 _).mono ?_
   rintro e w' ⟨rfl, hb'⟩
   have HR2 := Aa (Kd.R_below (Kd.R_alloc HR.1 _) hb')
   have HG2 := Aa ((HG.1.trans (World.grownBy_alloc wr _ _)).trans (grown_of_below hb' _))
   have HK := Aa (blk_below (blk_new wr _) hb')
   obtain ⟨G, hG⟩ : ∃ G, G = wr.heap.size := ⟨_, rfl⟩
   rw [← hG] at HK ⊢
   clear hb' HC hG HR HG d0 d1 d2
   have f0 : w'.cell? ⟨G, 0, none⟩ = some (.int .i64 y0) := cC HK 0
   have f1 : w'.cell? ⟨G, 1, none⟩ = some (.int .i64 y1) := cC HK 1
   have f2 : w'.cell? ⟨G, 2, none⟩ = some (.int .i64 y2) := cC HK 2
   obtain ⟨q1, q2, q3, q4, q5⟩ := HD.1
   have hkn : (kept.length : Int) < (n : Int) := by omega
   have hdr : row.drop j = ⟨y0, y1, y2⟩ :: row.drop (j + 1) := by
    obtain ⟨h1, h2⟩ := HY.1
    rw [List.drop_eq_getElem_cons h1, h2]
   cases p with
   | true =>
    obtain ⟨ad, e, e0, e1, e2⟩ := at_T53 (Kd.R_reads' HR2.1).2.2 (kept.length : Int) (by omega) (by omega)
    cases e
    simp only [add_plain] at e0 e1 e2
    have HE := Aa (show ∃ c0 c1 c2 : Value, w'.cell? ⟨g, kept.length * 3, none⟩ = some c0 ∧ w'.cell? ⟨g, kept.length * 3 + 1, none⟩ = some c1 ∧ w'.cell? ⟨g, kept.length * 3 + 2, none⟩ = some c2 from ⟨_, _, _, by simpa using e0, by simpa using e1, by simpa using e2⟩)
    have HQ := Aa (show (row.set kept.length (⟨y0, y1, y2⟩ : S53)).length = n ∧ (row.set kept.length (⟨y0, y1, y2⟩ : S53)).take (kept.length + 1) = kept ++ [⟨y0, y1, y2⟩] ∧ (row.set kept.length (⟨y0, y1, y2⟩ : S53)).drop (j + 1) = row.drop (j + 1) ∧ kept.length + 1 < j + 1 ∧ (kept ++ [⟨y0, y1, y2⟩]) ++ (row.drop (j + 1)).filter propB = fl from
     ⟨by rw [List.length_set]; exact q1, by rw [take_set_succ _ _ _ (by omega), q2], List.drop_set_of_lt (by omega), by omega, by rw [← q5, ← q3, hdr, List.filter_cons, if_pos HP.1.symm, List.append_assoc]; rfl⟩)
    clear e0 e1 e2 q2 q3 q5 hdr
    go_wp2_with (first | ((with_reducible refine gate_store (t := 53) (p := 33) rfl ?_); obtain ⟨z0, z1, z2, e0, e1, e2⟩ := HE.1; refine @Kd.R_store Try.prog _ _ _ _ _ S53 k53 w' w' base ?hN ?hgd 53 (.tmp 33) (.tmp 32) ?hoo 53 g n c (kept.length * 3) (kept.length : Int) 0 row (⟨y0, y1, y2⟩ : S53) (.agg #[.int .i64 y0, .int .i64 y1, .int .i64 y2]) [.int .i64 y0, .int .i64 y1, .int .i64 y2] [z0, z1, z2] ok (fun _ => False) ?ha ?hoff ?hx ?hu ?ht ?h1 HR2.1 ?h0 ?hi ?hcl ?hcc ?hj ?hM ?hokp (Below.refl _ _) ?_; (case hN => rfl); (case hgd => rfl); (case hoo => rfl); (case ha => first | (go_simp; done) | (go_simp; rfl)); (case hoff => show kept.length * 3 = (kept.length : Int).toNat * 3 + 0; simp); (case hx => first | (go_simp; done) | (go_simp; rfl)); (case hu => rfl); (case ht => kernel_rfl); (case h1 => intro q hq; simp at hq; rcases hq with rfl | rfl | rfl <;> rfl); (case h0 => omega); (case hi => exact hkn); (case hcl => rfl); (case hcc => intro j u hj; show w'.cell? ⟨g, (kept.length : Int).toNat * 3 + j, none⟩ = some u; rw [show (kept.length : Int).toNat = kept.length by omega]; match j, hj with | 0, hj => (injection hj with hj; subst hj; exact e0) | 1, hj => (injection hj with hj; subst hj; exact e1) | 2, hj => (injection hj with hj; subst hj; exact e2)); (case hj => exact Nat.le_refl 3); (case hM => exact k53_mkM _ _ _ (⟨y0, y1, y2⟩ : S53)); (case hokp => exact fun _ h => h.elim); intro w2 ho _ hg2; have HR3 := Aside0.mk ho; have HG3 := Aa (HG2.1.trans hg2); clear ho hg2))
    go_roundg (n - (j + 1))
    case measure => omega
    case rel =>
     refine ⟨kept ++ [⟨y0, y1, y2⟩], row.drop (j + 1), row.set kept.length ⟨y0, y1, y2⟩, j + 1, by omega, by omega, by simp, by go_num, ⟨by obtain ⟨r1, r2, r3, r4, r5⟩ := HQ.1; rw [List.length_append]; exact ⟨r1, r2, r3, r4, r5⟩⟩, ⟨?_⟩, HG3⟩
     have := HR3.1
     rwa [show (kept.length : Int).toNat = kept.length by omega] at this
   | false =>
    go_wp2_with fail
    go_roundg (n - (j + 1))
    case measure => omega
    case rel => exact ⟨kept, row.drop (j + 1), row, j + 1, by omega, by omega, rfl, by go_num, ⟨q1, q2, rfl, by omega, by rw [← q5, ← q3, hdr, List.filter_cons, if_neg (by rw [← HP.1]; decide)]⟩, HR2, HG2⟩
  ·
   obtain ⟨q1, q2, q3, q4, q5⟩ := HD.1
   have hjn : j = n := by omega
   have hfl : kept = fl := by rw [← q5, ← q3, hjn, ← q1, List.drop_length]; simp
   have hnc := (Kd.R_reads' HR.1).2.1
   obtain ⟨h0, inner, hown, hr⟩ := HR.1
   have hinner := reps_enc hr
   subst hinner
   have hown2 := hown.2
   have hsz : k53.sz = 3 := rfl
   have hd := hown2.resolve_left (fun hh => by cases hh.1)
   obtain ⟨g', cap, cur, e, hbg, hgc, hncap, hcm, hcs, hct⟩ := hd
   injection e with ea eb ec
   injection ea with ea
   injection ea with ea
   subst ea ec
   clear eb
   have hct' : cur.toList.take (row.length * 3) = row.flatMap encE := hct
   have hcs' : cur.size = c * 3 := hcs
   have hkn : kept.length < n := by omega
   obtain ⟨L, hL, hrun⟩ := run_clear3 wr g (kept.length * 3) (n - kept.length) (c - kept.length) (by omega) 0 cur 53 hgc (by omega)
   obtain ⟨cur', hg2, hs2, hl2⟩ := setCells_row (g := g) (e := 53) L (kept.length * 3) wr cur hgc (by omega)
   have HF := Aa (show k53.R 53 (wr.setCells g (kept.length * 3) L) base ok (.slice (some ⟨g, 0, none⟩) kept.length c) fl ∧ w.grownBy (wr.setCells g (kept.length * 3) L) (some g) from by
    have hpre : cur'.toList.take (kept.length * 3) = fl.flatMap encE := by
     have htl : (cur.toList.take (kept.length * 3)).length = kept.length * 3 := by simp; omega
     rw [hl2, List.append_assoc, List.take_left' htl]
     have h5 : cur.toList.take (kept.length * 3) = (cur.toList.take (row.length * 3)).take (kept.length * 3) := by rw [List.take_take, Nat.min_eq_left (by omega)]
     rw [h5, hct', encE_take, q2, hfl]
    refine ⟨⟨h0, fl.flatMap encE, ⟨by rw [encE_len, hsz], .inr ⟨g, c, cur', by rw [hfl], hbg, hg2, by rw [← hfl]; omega, hcm, by rw [hs2]; exact hcs, by rw [← hfl] at hpre ⊢; exact hpre⟩⟩, enc_reps _⟩, ?_⟩
    obtain ⟨s1, s2, s3, s4⟩ := setCells_same g L (kept.length * 3) wr
    exact HG.1.trans ⟨s1, s2, s3, by rw [s4]; exact Nat.le_refl _, fun k _ hk => setCells_far L (kept.length * 3) k (fun e => hk (by rw [e]))⟩)
   have hkc : (kept.length : Int) ≤ (c : Int) := by omega
   have hkn2 : (kept.length : Int) ≤ (n : Int) := by omega
   have hcc : ¬ (c = kept.length) := by omega
   clear q1 q2 q3 q4 q5 hown hown2 hr h0 hgc hct hct' hcs hg2 hs2 hl2 hL HG HR HD hfl hjn
   go_wp2_with fail
   go_ret
   exact ⟨_, rfl, HF.1.1, HF.1.2⟩
instance : Inhabited S53 := ⟨z53⟩
theorem flat_get : ∀ (l : List S53) (t : Nat), t < l.length * 3 → (l.flatMap encE)[t]? = some ((encE (l[t / 3]!))[t % 3]!)
 | [], t, h => by simp at h
 | x :: l, t, h => by
  rw [List.flatMap_cons]
  by_cases h3 : t < 3
  ·
   rw [List.getElem?_append_left (by simpa [encE] using h3), show t / 3 = 0 by omega]
   match t, h3 with
   | 0, _ => rfl
   | 1, _ => rfl
   | 2, _ => rfl
  ·
   rw [List.getElem?_append_right (by simp [encE]; omega), show (encE x).length = 3 from rfl, flat_get l (t - 3) (by simp at h; omega), show t / 3 = (t - 3) / 3 + 1 by omega, show t % 3 = (t - 3) % 3 by omega]
   simp
theorem flatK_enc (d : Array S53) : Go.Sort.flatK encE 3 d = (d.toList.flatMap encE).toArray := by
 apply Array.ext
 ·
  rw [Go.Sort.size_flatK]; show _ = (d.toList.flatMap encE).length; rw [encE_len, Array.length_toList]
 ·
  intro t h1 h2
  have ht : t < d.size * 3 := by simpa using h1
  have e1 := Go.Sort.get_flatK encE 3 d t ht
  rw [getElem!_pos _ t h1] at e1
  rw [e1]
  have e2 := flat_get d.toList t (by simpa using ht)
  have e3 : (d.toList.flatMap encE).toArray[t]? = some ((encE (d.toList[t / 3]!))[t % 3]!) := by simpa using e2
  rw [Array.getElem?_eq_getElem h2] at e3
  have e4 := Option.some.inj e3
  rw [e4]
  congr 2
  have hd : t / 3 < d.size := by omega
  rw [getElem!_pos d _ hd, getElem!_pos d.toList _ (by simpa using hd)]
  simp
/-- What a row of extents holds, in the sort's words. -/
theorem holds_row {w : World} {g : Nat} {cur : Array Value} {t : TypeId} {l : List S53} (hg : w.heap[g]? = some (.cells cur t (0, 0))) (hc : cur.toList.take (l.length * 3) = l.flatMap encE) : Go.Sort.HoldsK encE 3 w g 0 l.toArray := by
 intro j hj
 have hj' : j < l.length * 3 := by simpa using hj
 rw [flatK_enc]
 simp only [Nat.zero_add, id]
 have h1 : (l.flatMap encE)[j]? = cur[j]? := by rw [← hc, List.getElem?_take, if_pos hj']; simp
 have h2 := flat_get l j hj'
 refine ⟨?_, by simp [World.frozen?, hg]⟩
 have h3 : w.cell? ⟨g, j, none⟩ = cur[j]? := by simp [World.cell?, hg]
 rw [h3, ← h1]
 have h4 : j < (l.flatMap encE).length := by rw [encE_len]; exact hj'
 have h5 : (l.flatMap encE).toArray[j]! = (l.flatMap encE)[j] := by rw [getElem!_pos _ j (by rw [List.size_toArray]; exact h4)]; simp
 rw [List.getElem?_eq_getElem h4, h5]
/-- .. and back: the row that the sort leaves. -/
theorem row_sorted {w : World} {g n m : Nat} {cur : Array Value} {t : TypeId} {d : Array S53} {os : Array Obj} (hg : w.heap[g]? = some (.cells cur t (0, 0))) (hd : d.size = n) (hn : n * 3 ≤ cur.size) :
  ∃ cur' : Array Value, (sortWorldK encE 3 w g 0 m d os).heap[g]? = some (.cells cur' t (0, 0)) ∧ cur'.size = cur.size ∧ cur'.toList.take (n * 3) = d.toList.flatMap encE := by
 have hlt : g < w.heap.size := (Array.getElem?_eq_some_iff.1 hg).1
 have hfs : (Go.Sort.flatK encE 3 d).size = n * 3 := by simp [hd]
 refine ⟨Go.Sort.putCells id 0 (Go.Sort.flatK encE 3 d) cur, ?_, by simp [Go.Sort.putCells], ?_⟩
 ·
  show ((w.heap.modify g (Go.Sort.onCells _)) ++ os)[g]? = _
  rw [Array.getElem?_append_left (by simpa using hlt), Array.getElem?_modify, if_pos rfl, hg]
  rfl
 ·
  apply List.ext_getElem?
  intro j
  by_cases hj : j < n * 3
  ·
   rw [List.getElem?_take, if_pos hj]
   have h1 : (d.toList.flatMap encE).toArray[j]? = (d.toList.flatMap encE)[j]? := by simp
   rw [← h1, ← flatK_enc]
   rw [Array.getElem?_toList]
   simp only [Go.Sort.putCells, Array.getElem?_mapIdx]
   rw [Array.getElem?_eq_getElem (show j < cur.size by omega), Array.getElem?_eq_getElem (by omega)]
   simp only [Option.map_some, Nat.zero_le, Nat.zero_add, true_and, id, Nat.sub_zero]
   rw [if_pos (by omega), getElem!_pos _ j (by omega)]
  ·
   rw [List.getElem?_take, if_neg hj, List.getElem?_eq_none]
   rw [encE_len]; simp; omega
theorem sorted_grown {w : World} {g m : Nat} {d : Array S53} {os : Array Obj} : w.grownBy (sortWorldK encE 3 w g 0 m d os) (some g) := by
 refine ⟨rfl, rfl, rfl, ?_, ?_⟩
 ·
  show w.heap.size ≤ ((w.heap.modify g (Go.Sort.onCells _)) ++ os).size
  simp
 ·
  intro k hk hne
  show ((w.heap.modify g (Go.Sort.onCells _)) ++ os)[k]? = _
  rw [Array.getElem?_append_left (by simpa using hk), Array.getElem?_modify, if_neg (fun e => hne (by rw [e]))]
open Go.Sort in
def cmpE (x y : Int) : Int := if x < y then -1 else if y < x then 1 else 0
set_option maxHeartbeats 1000000 in
theorem cmp_calls (x y : Int) (w : World) : Calls Try.prog 35 #[.int .i64 x, .int .i64 y] w fun e w' => e = .returned (.int .i64 (cmpE x y)) ∧ w' = w := by
 have hx : (x != x) = false := by simp
 have hy : (y != y) = false := by simp
 rcases Int.lt_trichotomy x y with h | h | h
 ·
  have e : cmpE x y = -1 := by unfold cmpE; rw [if_pos h]
  rw [e]
  go_enter Try.func35, Try.ntmps35
  go_wp2
  go_ret
  exact ⟨rfl, rfl⟩
 ·
  subst h
  have e : cmpE x x = 0 := by unfold cmpE; rw [if_neg (Int.lt_irrefl _), if_neg (Int.lt_irrefl _)]
  rw [e]
  go_enter Try.func35, Try.ntmps35
  go_wp2
  go_ret
  exact ⟨rfl, rfl⟩
 ·
  have e : cmpE x y = 1 := by unfold cmpE; rw [if_neg (by omega), if_pos h]
  have h1 : ¬ x < y := by omega
  rw [e]
  go_enter Try.func35, Try.ntmps35
  go_wp2
  go_ret
  exact ⟨rfl, rfl⟩
set_option maxHeartbeats 1000000 in
/-- Runs' second closure. -/
theorem order_calls (x y : S53) (W : World) : Calls Try.prog 59 #[.agg #[.int .i64 x.f0, .int .i64 x.f1, .int .i64 x.f2], .agg #[.int .i64 y.f0, .int .i64 y.f1, .int .i64 y.f2]] W fun e w' => e = .returned (.int .i64 (cmpE x.f2 y.f2)) ∧ ∃ q os', w' = Go.Sort.grow (W.drewN q) os' := by
 have hcon := fun W' => cmp_calls x.f2 y.f2 W'
 obtain ⟨x0, x1, x2⟩ := x
 obtain ⟨y0, y1, y2⟩ := y
 simp only at hcon ⊢
 generalize cmpE x2 y2 = r at hcon ⊢
 have HH := Aside0.mk hcon
 clear hcon
 have hu53 := Try.underlying53
 go_enter Try.func59, Try.ntmps59
 go_wp2_with (go_at_call 35; refine (HH.1 _).mono ?_; rintro e w' ⟨rfl, rfl⟩)
 go_ret
 exact ⟨rfl, 0, _, by rw [Go.Sort.alloc_eq_grow, Go.Sort.alloc_eq_grow, Go.Sort.grow_grow]; rfl⟩
theorem ltE (x y : S53) : ltOf (fun x y : S53 => cmpE x.f2 y.f2) x y = decide (x.f2 < y.f2) := by
 unfold ltOf cmpE
 by_cases h : x.f2 < y.f2
 ·
  simp [h]
 ·
  by_cases h2 : y.f2 < x.f2 <;> simp [h, h2]
theorem swoE : Go.Sort.SWO (ltOf fun x y : S53 => cmpE x.f2 y.f2) where
 irrefl x := by rw [ltE]; simp
 trans x y z h1 h2 := by rw [ltE] at *; simp at *; omega
 ntrans x y z h1 h2 := by rw [ltE] at *; simp at *; omega
theorem aggE (w : World) : (isAgg 53).run Try.prog w = .ok true w := by kernel_rfl
theorem sizeE (w : World) : (Go.sizeOf 53).run Try.prog w = .ok 3 w := by kernel_rfl
/-- What slices.SortFunc makes of a list. -/
def sortL (l : List S53) : List S53 := (Go.Sort.pdq (ltOf fun x y : S53 => cmpE x.f2 y.f2) l.toArray 0 l.toArray.size (Lib.bitLen l.toArray.size) true true).toList
theorem sortL_facts (l : List S53) : (sortL l).Perm l ∧ (sortL l).Pairwise (fun a b => a.f2 ≤ b.f2) := by
 obtain ⟨⟨hp1, _, hp3⟩, hs⟩ := Go.Sort.pdq_sorts (ltOf fun x y : S53 => cmpE x.f2 y.f2) swoE l.toArray 0 l.toArray.size (Lib.bitLen l.toArray.size) true true (Nat.zero_le _) (Nat.le_refl _) (Or.inl rfl)
 unfold sortL
 generalize Go.Sort.pdq (ltOf fun x y : S53 => cmpE x.f2 y.f2) l.toArray 0 l.toArray.size (Lib.bitLen l.toArray.size) true true = d' at *
 refine ⟨?_, ?_⟩
 ·
  have e1 : d'.extract 0 l.toArray.size = d' := by rw [← hp1]; exact Array.extract_size
  have e2 : l.toArray.extract 0 l.toArray.size = l.toArray := Array.extract_size
  rw [e1, e2] at hp3
  simpa using hp3
 ·
  rw [List.pairwise_iff_getElem]
  intro i j hi hj hij
  have := hs i j (Nat.zero_le _) hij (by rw [← hp1]; simpa using hj)
  rw [ltE] at this
  simp only [decide_eq_false_iff_not] at this
  have hi' : i < d'.size := by simpa using hi
  have hj' : j < d'.size := by simpa using hj
  rw [getElem!_pos d' i hi', getElem!_pos d' j hj'] at this
  simp only [Array.getElem_toList]
  omega
theorem sortL_length (l : List S53) : (sortL l).length = l.length := (sortL_facts l).1.length_eq
/-- slices.SortFunc by the slots, on a row of the call's own. -/
theorem sort_calls (v : Value) (l : List S53) (w : World) (base : Nat) (ok : Nat → Prop) (h : Kd.R k53 53 w base ok v l) (hl : l.length ≤ 1000000000) :
  Calls Try.prog 58 #[v, .func (.func 59) #[] #[]] w fun e w' => e = .returned (.tuple #[]) ∧ Kd.R k53 53 w' base ok v (sortL l) ∧ w.grownBy w' v.ownBlock := by
 have hd0 := sortL_length l
 obtain ⟨h0, inner, hown, hr⟩ := h
 have hinner := reps_enc hr
 subst hinner
 rcases hown.2 with ⟨rfl, hn0⟩ | ⟨g, cap, cur, rfl, hbg, hg, hnc, hcm, hcs, hct⟩
 ·
  have hn : l = [] := List.eq_nil_of_length_eq_zero hn0
  subst hn
  have hS := AnyF.slices_SortFunc_none (P := Try.prog) (ρ := Try.sortE_ren) Try.sortE none 0 (.func (.func 59) #[] #[]) w
  change Calls Try.prog 58 _ _ _ at hS
  have hn : sortL [] = [] := List.eq_nil_of_length_eq_zero hd0
  rw [hn]
  refine hS.mono ?_
  rintro e w' ⟨rfl, rfl⟩
  exact ⟨rfl, Kd.R_nil _ _ _ _ _, ⟨rfl, rfl, rfl, Nat.le_refl _, fun _ _ _ => rfl⟩⟩
 ·
  have hgw : g < w.heap.size := (Array.getElem?_eq_some_iff.1 hg).1
  have eg : ∀ args w, (callFunc 59 args).run Try.prog w = .ok (.enter 59 args) w := enters_of Try.func59 (by kernel_rfl) rfl
  have hS := AnyQ.slices_SortFunc_eq Try.sortE 3 aggE sizeE encE (fun _ => rfl) (fun x v hv => by simp [encE] at hv; rcases hv with rfl | rfl | rfl <;> rfl) (fun x y : S53 => cmpE x.f2 y.f2) swoE 59 #[] g 0 cap l.toArray w eg (fun _ _ _ _ x y => order_calls x y _) (holds_row hg hct) hgw (by simp; omega)
  change Calls Try.prog 58 _ _ _ at hS
  have es : (Go.Sort.pdq (ltOf fun x y : S53 => cmpE x.f2 y.f2) l.toArray 0 l.toArray.size (Lib.bitLen l.toArray.size) true true) = (sortL l).toArray := by unfold sortL; simp
  rw [es] at hS
  generalize sortL l = l' at *
  rw [List.size_toArray] at hS
  refine hS.mono ?_
  rintro e w' ⟨rfl, n, os, rfl⟩
  have hd : l'.toArray.size = l.length := by simpa using hd0
  have hcs' : cur.size = cap * 3 := hcs
  obtain ⟨cur', hg', hs', ht'⟩ := row_sorted (m := n) (d := l'.toArray) (os := os) hg hd (by omega)
  have hsz : k53.sz = 3 := rfl
  refine ⟨rfl, ⟨h0, l'.flatMap encE, ⟨by rw [encE_len, hsz], .inr ⟨g, cap, cur', ?_, hbg, hg', by omega, hcm, ?_, ?_⟩⟩, enc_reps _⟩, sorted_grown⟩
  ·
   rw [hd0]
  ·
   rw [hs']; exact hcs
  ·
   rw [hd0]; exact ht'
/-- slices.DeleteFunc on a row of the call's own. -/
theorem delete_full (v : Value) (l : List S53) (w : World) (base : Nat) (ok : Nat → Prop) (h : Kd.R k53 53 w base ok v l) (hl : l.length ≤ 1000000000) :
  Calls Try.prog 55 #[v, .func (.func 56) #[] #[]] w fun e w' => ∃ v', e = .returned v' ∧ Kd.R k53 53 w' base ok v' (l.filter propB) ∧ w.grownBy w' v.ownBlock := by
 rcases first_bad l with hall | ⟨pre, x, post, e, h1, h2⟩
 ·
  obtain ⟨A, c, rfl, _, hC⟩ := Kd.R_reads h
  refine (delete_none A c l w hC hl fun x hx => by rw [propB_eq, hall x hx]).mono ?_
  rintro e w' ⟨rfl, hb⟩
  refine ⟨_, rfl, ?_, grown_of_below hb _⟩
  rw [List.filter_eq_self.2 hall]
  exact Kd.R_below h hb
 ·
  obtain ⟨g, cap, rfl, _, _, _⟩ := Kd.R_form h (by rw [e, List.length_append, List.length_cons]; omega)
  exact delete_some g cap l w base ok h hl pre post x e h1 h2
theorem below_sorted {b : Nat} {w0 w w' : World} {v : Value} {l : List S53} {ok : Nat → Prop} (hb : Below b w0 w) (h : Kd.R k53 53 w b ok v l) (hg : w.grownBy w' v.ownBlock) (hs : b ≤ w.heap.size) : Below b w0 w' := by
 obtain ⟨h0, inner, hown, hr⟩ := h
 exact hb.grown hg hs (fun k_ hk => own_base hown k_ hk)
/-- slices.Clone, slices.DeleteFunc and slices.SortFunc, as Runs calls them one behind the other. -/
def api_Extent_55.f (l : List S53) : Option (List S53) := if l.length ≤ 1000000000 then some (sortL (l.filter propB)) else none
theorem api_Extent_55.told {l r : List S53} (h : api_Extent_55.f l = some r) : l.length ≤ 1000000000 ∧ (l.filter propB).length ≤ 1000000000 ∧ r = sortL (l.filter propB) := by
 unfold api_Extent_55.f at h
 split at h
 ·
  rename_i hc
  exact ⟨hc, Nat.le_trans (List.length_filter_le _ _) hc, (Option.some.inj h).symm⟩
 ·
  cases h

-- NOT PRINTED: function 69 (api_Extent_69)

-- NOT PRINTED: function 79 (api_Extent_79)

-- NOT PRINTED: function 70 (api_Extent_70)

-- NOT PRINTED: function 77 (bits_Len32)

-- NOT PRINTED: function 78 (bits_Len64)

-- NOT PRINTED: function 67 (bits_Len)

-- NOT PRINTED: function 80 (slices_nextPowerOfTwo)

-- NOT PRINTED: function 81 (slices_xorshift_Next)

-- NOT PRINTED: function 71 (api_Extent_71)

-- NOT PRINTED: function 84 (api_Extent_84)

-- NOT PRINTED: function 83 (api_Extent_83)

-- NOT PRINTED: function 82 (api_Extent_82)

-- NOT PRINTED: function 72 (api_Extent_72)

-- NOT PRINTED: function 73 (api_Extent_73)

-- NOT PRINTED: function 74 (api_Extent_74)

-- NOT PRINTED: function 75 (api_Extent_75)

-- NOT PRINTED: function 76 (api_Extent_76)

-- NOT PRINTED: function 66 (api_Extent_66)

-- NOT PRINTED: function 58 (api_Extent_58)

end Go.Proofs.Ytcjpikjbjehjeaa.PAllocB
