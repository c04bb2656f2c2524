-- Written for this claim by a program of this session (wip/), out of the translation's own print: Lean checks it
import Derived.Test.YtcjpikjbjehjeaaProg
import Derived.Below
import Derived.Deep.Draws
import Derived.Deep.AppendLies
import Derived.Maps.AppendAt
import Derived.OwnWalk
import Derived.Laws.BytesArg
import Derived.Laws.MakeOwn
import Derived.Laws.OwnMore
import Derived.Deep.OwnRows
import Derived.Tactics
import Derived.Lib.ConvBytes
import Derived.Laws.Slices
import Derived.WalkKit
import Derived.KernelRfl
import Derived.RowKit3
import Derived.Deep.LoopGhost
import Derived.Deep.QuietTactic
import Derived.BigQuiet
import Derived.WideLaws
import Derived.Deep.DeepCutAuto
import Derived.Deep.CutBlock
import Derived.Deep.RegionHeld3
import Derived.Laws.Rows
import Derived.Lib.AppendStr
import Derived.ArgAppend
import Derived.Laws.IdiomCopy
import Derived.OrdersHeld
import Derived.Laws.BitsLemmas
import Derived.RowKit
import Derived.Test.YtcjpikjbjehjeaaWWords
import Derived.Test.YtcjpikjbjehjeaaWLast
import Derived.Test.YtcjpikjbjehjeaaWTab
import Derived.Test.YtcjpikjbjehjeaaWQPut
import Derived.Test.YtcjpikjbjehjeaaWApart
import Derived.Test.YtcjpikjbjehjeaaWArr
import Derived.Test.YtcjpikjbjehjeaaWZeros
import Derived.Test.YtcjpikjbjehjeaaWFoot
import Derived.Test.YtcjpikjbjehjeaaWKept
import Derived.Test.YtcjpikjbjehjeaaWShare
import Derived.Test.YtcjpikjbjehjeaaWN
import Derived.Test.YtcjpikjbjehjeaaWEqStruct
import Derived.Test.YtcjpikjbjehjeaaWNEv
import Derived.Test.YtcjpikjbjehjeaaWMore
namespace Go.Proofs.Ytcjpikjbjehjeaa.PAllocB
open Go.RowKit Go.Proofs.YtcjpikjbjehjeaaW.PrintWords Go.Proofs.YtcjpikjbjehjeaaW.PrintLast Go.Proofs.YtcjpikjbjehjeaaW.PrintMore
attribute [local go_sem] max2_int min2_int max_two min_two max_three min_three max_four min_four   -- for this text's walks alone
set_option linter.unusedVariables false
set_option linter.unusedSimpArgs false



def errW : Option Int → Value
 | none => .nilIface
 | some c => .iface 0 (.int .i64 c)
theorem errW_none : errW none = .nilIface := rfl
theorem errW_some (c : Int) : errW (some c) = .iface 0 (.int .i64 c) := rfl

theorem info4 : (Try.prog.info? 4).map (fun i => (i.zero, i.size, i.bytes)) = some (some (.bool false), 1, 1) := by kernel_rfl
theorem info24 : (Try.prog.info? 24).map (fun i => (i.zero, i.size, i.bytes)) = some (some (.slice none 0 0), 1, 24) := by kernel_rfl
theorem info53 : (Try.prog.info? 53).map (fun i => (i.zero, i.size, i.bytes)) = some (some (.agg #[(.int .i64 0), (.int .i64 0), (.int .i64 0)]), 3, 24) := by kernel_rfl
-- the values' own types
/-! #### struct type 53 -/
structure S53 where
 f0 : Int
 f1 : Int
 f2 : Int
def z53 : S53 := ⟨(0 : Int), (0 : Int), (0 : Int)⟩
def k53 : Kd S53 := Kd.iso (Kd.pair (Kd.int .i64) (Kd.pair (Kd.int .i64) (Kd.int .i64))) (fun x : S53 => (x.f0, x.f1, x.f2))
theorem k53_heap : Kd.Heap k53 := Kd.heap_iso _ (Kd.heap_pair (Kd.heap_int .i64) (Kd.heap_pair (Kd.heap_int .i64) (Kd.heap_int .i64)))
theorem k53_open {w : World} {x : S53} {cs : List Value} (h : k53.K w x cs) : cs = [.int .i64 x.f0, .int .i64 x.f1, .int .i64 x.f2] := by
 obtain ⟨_, _, rfl, rfl, ⟨_, _, rfl, rfl, rfl⟩⟩ := h
 exact rfl
theorem k53_openM {w : World} {base : Nat} {ok : Nat → Prop} {x : S53} {cs : List Value} (h : k53.M w base ok x cs) : cs = [.int .i64 x.f0, .int .i64 x.f1, .int .i64 x.f2] := by
 obtain ⟨_, _, rfl, rfl, ⟨_, _, rfl, rfl, rfl⟩⟩ := h
 exact rfl
theorem k53_mk (w : World) (x : S53)  : k53.K w x [.int .i64 x.f0, .int .i64 x.f1, .int .i64 x.f2] := ⟨[.int .i64 x.f0], [.int .i64 x.f1, .int .i64 x.f2], rfl, rfl, ⟨[.int .i64 x.f1], [.int .i64 x.f2], rfl, rfl, rfl⟩⟩
theorem k53_mkM (w : World) (base : Nat) (ok : Nat → Prop) (x : S53)  : k53.M w base ok x [.int .i64 x.f0, .int .i64 x.f1, .int .i64 x.f2] := ⟨[.int .i64 x.f0], [.int .i64 x.f1, .int .i64 x.f2], rfl, rfl, ⟨[.int .i64 x.f1], [.int .i64 x.f2], rfl, rfl, rfl⟩⟩
theorem k53_mkF (W : World) (ok : Nat → Prop) (x : S53) : Kd.FK k53 W ok x [.int .i64 x.f0, .int .i64 x.f1, .int .i64 x.f2] := fun W2 _ => k53_mk W2 x
def rd_T53 (xs : List S53) (i : Int) : S53 := xs.getD i.toNat z53
theorem at_T53 {w : World} {A : Option Addr} {n : Nat} {xs : List S53} (h : Kd.C k53 w A n xs) (i : Int) (h0 : 0 ≤ i) (h1 : i < n) : ∃ ad , A = some ad ∧ w.cell? (ad.add (i.toNat * 3)) = some (.int .i64 (rd_T53 xs i).f0) ∧ w.cell? ⟨(ad.add (i.toNat * 3)).block, (ad.add (i.toNat * 3)).off + 1, none⟩ = some (.int .i64 (rd_T53 xs i).f1) ∧ w.cell? ⟨(ad.add (i.toNat * 3)).block, (ad.add (i.toNat * 3)).off + 2, none⟩ = some (.int .i64 (rd_T53 xs i).f2) := by
 obtain ⟨ad, c, e, _, hK, hc0⟩ := Kd.C_get h z53 i h0 h1
 have hc : ∀ j u, c[j]? = some u → w.cell? (ad.add (i.toNat * 3 + j)) = some u := hc0
 obtain rfl := k53_open hK
 exact ⟨ad, e, hc 0 _ rfl, by rw [← add_field _ _ 1 (by omega)]; exact hc 1 _ rfl, by rw [← add_field _ _ 2 (by omega)]; exact hc 2 _ rfl⟩

def rd_L2 (xs : List (List S53)) (i : Int) : (List S53) := xs.getD i.toNat ([] : List S53)
theorem at_L2 {w : World} {A : Option Addr} {n : Nat} {xs : List (List S53)} (h : Kd.C (Kd.slice 53 k53) w A n xs) (i : Int) (h0 : 0 ≤ i) (h1 : i < n) : ∃ ad A0 c0, A = some ad ∧ w.cell? (ad.add i.toNat) = some (.slice A0 (rd_L2 xs i).length c0) ∧ (rd_L2 xs i).length ≤ c0 ∧ k53.C w A0 (rd_L2 xs i).length (rd_L2 xs i) := by
 obtain ⟨ad, c, e, _, hK, hc0⟩ := Kd.C_get h ([] : List S53) i h0 h1
 have hc : ∀ j u, c[j]? = some u → w.cell? (ad.add (i.toNat * 1 + j)) = some u := hc0
 obtain ⟨A0, c0, rfl, l0, g0⟩ := hK
 exact ⟨ad, A0, c0, e, by have hq := hc 0 _ rfl; rwa [Nat.mul_one, Nat.add_zero] at hq, l0, g0⟩

/-! #### struct type 57 -/
structure S57 where
 f0 : Int
 f1 : Int
 f2 : Int
 f3 : (List S53)
def z57 : S57 := ⟨(0 : Int), (0 : Int), (0 : Int), ([] : List S53)⟩
def k57 : Kd S57 := Kd.iso (Kd.pair (Kd.int .u8) (Kd.pair (Kd.int .u8) (Kd.pair (Kd.int .u8) (Kd.slice 53 k53)))) (fun x : S57 => (x.f0, x.f1, x.f2, x.f3))
theorem k57_heap : Kd.Heap k57 := Kd.heap_iso _ (Kd.heap_pair (Kd.heap_int .u8) (Kd.heap_pair (Kd.heap_int .u8) (Kd.heap_pair (Kd.heap_int .u8) (Kd.heap_slice 53 k53_heap))))
theorem k57_open {w : World} {x : S57} {cs : List Value} (h : k57.K w x cs) : ∃ A3 c3, cs = [.int .u8 x.f0, .int .u8 x.f1, .int .u8 x.f2, .slice A3 x.f3.length c3] ∧ x.f3.length ≤ c3 ∧ k53.C w A3 x.f3.length x.f3 := by
 obtain ⟨_, _, rfl, rfl, ⟨_, _, rfl, rfl, ⟨_, _, rfl, rfl, ⟨A3, c3, rfl, l3, g3⟩⟩⟩⟩ := h
 exact ⟨A3, c3, rfl, l3, g3⟩
theorem k57_openM {w : World} {base : Nat} {ok : Nat → Prop} {x : S57} {cs : List Value} (h : k57.M w base ok x cs) : ∃ v3, cs = [.int .u8 x.f0, .int .u8 x.f1, .int .u8 x.f2, v3] ∧ k53.R 53 w base ok v3 x.f3 := by
 obtain ⟨_, _, rfl, rfl, ⟨_, _, rfl, rfl, ⟨_, _, rfl, rfl, ⟨v3, rfl, g3⟩⟩⟩⟩ := h
 exact ⟨v3, rfl, g3⟩
theorem k57_mk (w : World) (x : S57) {A3 : Option Addr} {c3 : Nat} (l3 : x.f3.length ≤ c3) (g3 : k53.C w A3 x.f3.length x.f3) : k57.K w x [.int .u8 x.f0, .int .u8 x.f1, .int .u8 x.f2, .slice A3 x.f3.length c3] := ⟨[.int .u8 x.f0], [.int .u8 x.f1, .int .u8 x.f2, .slice A3 x.f3.length c3], rfl, rfl, ⟨[.int .u8 x.f1], [.int .u8 x.f2, .slice A3 x.f3.length c3], rfl, rfl, ⟨[.int .u8 x.f2], [.slice A3 x.f3.length c3], rfl, rfl, ⟨A3, c3, rfl, l3, g3⟩⟩⟩⟩
theorem k57_mkM (w : World) (base : Nat) (ok : Nat → Prop) (x : S57) {v3 : Value} (g3 : k53.R 53 w base ok v3 x.f3) : k57.M w base ok x [.int .u8 x.f0, .int .u8 x.f1, .int .u8 x.f2, v3] := ⟨[.int .u8 x.f0], [.int .u8 x.f1, .int .u8 x.f2, v3], rfl, rfl, ⟨[.int .u8 x.f1], [.int .u8 x.f2, v3], rfl, rfl, ⟨[.int .u8 x.f2], [v3], rfl, rfl, ⟨v3, rfl, g3⟩⟩⟩⟩
theorem k57_openF {W : World} {ok : Nat → Prop} {x : S57} {cs : List Value} (h : Kd.FK k57 W ok x cs) : ∃ A3 c3, cs = [.int .u8 x.f0, .int .u8 x.f1, .int .u8 x.f2, .slice A3 x.f3.length c3] ∧ x.f3.length ≤ c3 ∧ Kd.F k53 W ok A3 x.f3.length x.f3 := by
 obtain ⟨A3, c3, rfl, l3, _⟩ := k57_open (Kd.FK_now h)
 exact ⟨A3, c3, rfl, l3, (fun W' hW => by obtain ⟨A3_, c3_, he, l3_, g3_⟩ := k57_open (h W' hW); injection (Option.some.inj (show some (Value.slice A3 x.f3.length c3) = some (Value.slice A3_ x.f3.length c3_) from congrArg (fun l => l[3]?) he)) with ha_ _ _; rw [ha_]; exact g3_)⟩
theorem k57_mkF (W : World) (ok : Nat → Prop) (x : S57) {A3 : Option Addr} {c3 : Nat} (l3 : x.f3.length ≤ c3) (g3 : Kd.F k53 W ok A3 x.f3.length x.f3) : Kd.FK k57 W ok x [.int .u8 x.f0, .int .u8 x.f1, .int .u8 x.f2, .slice A3 x.f3.length c3] := fun W2 hW => k57_mk W2 x l3 (g3 W2 hW)
def rd_T57 (xs : List S57) (i : Int) : S57 := xs.getD i.toNat z57
theorem at_T57 {w : World} {A : Option Addr} {n : Nat} {xs : List S57} (h : Kd.C k57 w A n xs) (i : Int) (h0 : 0 ≤ i) (h1 : i < n) : ∃ ad A3 c3, A = some ad ∧ w.cell? (ad.add (i.toNat * 4)) = some (.int .u8 (rd_T57 xs i).f0) ∧ w.cell? ⟨(ad.add (i.toNat * 4)).block, (ad.add (i.toNat * 4)).off + 1, none⟩ = some (.int .u8 (rd_T57 xs i).f1) ∧ w.cell? ⟨(ad.add (i.toNat * 4)).block, (ad.add (i.toNat * 4)).off + 2, none⟩ = some (.int .u8 (rd_T57 xs i).f2) ∧ w.cell? ⟨(ad.add (i.toNat * 4)).block, (ad.add (i.toNat * 4)).off + 3, none⟩ = some (.slice A3 (rd_T57 xs i).f3.length c3) ∧ (rd_T57 xs i).f3.length ≤ c3 ∧ k53.C w A3 (rd_T57 xs i).f3.length (rd_T57 xs i).f3 := by
 obtain ⟨ad, c, e, _, hK, hc0⟩ := Kd.C_get h z57 i h0 h1
 have hc : ∀ j u, c[j]? = some u → w.cell? (ad.add (i.toNat * 4 + j)) = some u := hc0
 obtain ⟨A3, c3, rfl, l3, g3⟩ := k57_open hK
 exact ⟨ad, A3, c3, e, hc 0 _ rfl, by rw [← add_field _ _ 1 (by omega)]; exact hc 1 _ rfl, by rw [← add_field _ _ 2 (by omega)]; exact hc 2 _ rfl, by rw [← add_field _ _ 3 (by omega)]; exact hc 3 _ rfl, l3, g3⟩

/-- A world that comes out of another by new blocks and drawings alone. -/
def Up (W V : World) : Prop := Below W.heap.size W V
instance (W : World) : Nonempty (Up W W) := ⟨Below.refl _ _⟩
instance (W V : World) (o : Obj) [h : Nonempty (Up W V)] : Nonempty (Up W (V.alloc o)) := h.elim fun h => ⟨below_alloc h o⟩
instance (W V : World) (n : Nat) [h : Nonempty (Up W V)] : Nonempty (Up W (V.drewN n)) := h.elim fun h => ⟨pw_below_drewN h n⟩
instance (W V : World) [h : Nonempty (Up W V)] : Nonempty (Up W V.drew) := h.elim fun h => ⟨below_drew1 h⟩
theorem rU {α : Type} {d : Kd α} {e : TypeId} {W V : World} {base : Nat} {ok : Nat → Prop} {v : Value} {xs : List α} (h : d.R e W base ok v xs) [i : Nonempty (Up W V)] : d.R e V base ok v xs := i.elim fun i => Kd.R_below h i
theorem cU {α : Type} {d : Kd α} {W V : World} {A : Option Addr} {n : Nat} {xs : List α} (h : d.C W A n xs) [i : Nonempty (Up W V)] : d.C V A n xs := i.elim fun i => Kd.C_below h i
theorem vU {α : Type} {d : Kd α} {e : TypeId} {W V : World} {base : Nat} {ok : Nat → Prop} {v : Value} {xs : List α} (h : Kd.V d e W base ok v xs) [i : Nonempty (Up W V)] : Kd.V d e V base ok v xs := i.elim fun i => Kd.V_below h i
/-- What is below W is below V. -/
def Bu (w W V : World) : Prop := Below w.heap.size w W → Below w.heap.size w V
instance (w W : World) : Nonempty (Bu w W W) := ⟨id⟩
instance (w W V : World) (o : Obj) [h : Nonempty (Bu w W V)] : Nonempty (Bu w W (V.alloc o)) := h.elim fun h => ⟨fun b => below_alloc (h b) o⟩
instance (w W V : World) (n : Nat) [h : Nonempty (Bu w W V)] : Nonempty (Bu w W (V.drewN n)) := h.elim fun h => ⟨fun b => pw_below_drewN (h b) n⟩
instance (w W V : World) [h : Nonempty (Bu w W V)] : Nonempty (Bu w W V.drew) := h.elim fun h => ⟨fun b => below_drew1 (h b)⟩
instance (w W V : World) (g j : Nat) (v : Value) [h : Nonempty (Bu w W V)] [i : Nonempty (w.heap.size ≤ g)] : Nonempty (Bu w W (V.setCell ⟨g, j, none⟩ v)) := h.elim fun h => i.elim fun i => ⟨fun b => below_set (h b) i⟩
theorem bS {w W V : World} (h : Below w.heap.size w W) [i : Nonempty (Bu w W V)] : Below w.heap.size w V := i.elim fun i => i h
theorem kU {W V : World} {g : Nat} {o : Obj} (h : W.heap[g]? = some o) [i : Nonempty (Up W V)] : V.heap[g]? = some o := i.elim fun i => blk_below h i
theorem bU {w W V : World} (h : Below w.heap.size w W) [i : Nonempty (Up W V)] : Below w.heap.size w V := i.elim fun i => below_step h i
section
variable {P : Program} {ops : Array Oper} {Q : Exit → Act → World → Prop} {rest : List Oper} {oi : Oper} {a : Act} {w : World}
theorem gate_tmp {t : Tmp} {xs : Array Operand} {ts : Array TypeId} (_ho : oi.op = .call { callee := .value (.tmp t), args := xs, argTypes := ts }) (h : wpList P ops Q (oi :: rest) a w) : wpList P ops Q (oi :: rest) a w := h
/-- A call of a function that a variable holds, as an arm of go_wp2_with. -/
theorem goesT_ (N : Option Tmp) (hd : oi.dst = N) (hg : oi.guard = none) {f : FuncId} {fn : Func} {t : Tmp} {xs : Array Operand} {ts : Array TypeId} (hf : P.funcs[f]? = some fn) (hname : (fn.name == "runtime.NumGoroutine") = false) (hb : fn.body.isSome = true) (args : Array Value)
  (hop : oi.op = .call { callee := .value (.tmp t), args := xs, argTypes := ts }) (hv : a.eval (.tmp t) = .func (.func f) #[] #[]) (hargs : xs.map a.eval = args)
  (h : Calls P f args w fun e w' => ∃ v, e = .returned v ∧ wpList P ops Q rest (a.put N v) w') : wpList P ops Q (oi :: rest) a w := by
 refine wpList_plain hg fun K hK => ?_
 have he := enters_ hf hname hb args w
 have hrun : (execOp a.eval oi).run P w = .ok (.enter f args) w := by
  unfold execOp
  simp [hop, resolve, Deferred.ofValue, invoke, hv, hargs, he]
 unfold Oper.wp
 rw [hrun, Oper.upon_enter]
 refine h.mono fun e w'' hh => ?_
 obtain ⟨v, rfl, hk⟩ := hh
 subst hd
 exact hK _ _ hk
end

/-- What a slot's writing comes to, for simp. -/
theorem AP : (∀ (a : Act) (d : Nat) (v : Value), a.put (some d) v = { tmps := a.tmps.setIfInBounds d v, defers := a.defers }) ∧ (∀ (a : Act) (v : Value), a.put none v = a) ∧ (∀ (l : List Value) (i : Nat) (a : Value), l.toArray.setIfInBounds i a = (l.set i a).toArray) ∧ (∀ (x : Value) (xs : List Value) (a : Value), (x :: xs).set 0 a = a :: xs) ∧ (∀ (x : Value) (xs : List Value) (i : Nat) (a : Value), (x :: xs).set (i + 1) a = x :: xs.set i a) ∧ (∀ n, IntKind.i64.wrap n = wrap64 n) ∧ (∀ n, IntKind.i32.wrap n = wrap32 n) :=
  ⟨fun _ _ _ => rfl, fun _ _ => rfl, fun l i a => List.setIfInBounds_toArray l i a, fun _ _ _ => rfl, fun _ _ _ _ => rfl, i64_w, i32_w⟩

/-- The mask of what has come up: the bits of m. -/
def bm (n m : Nat) : Array Bool := ((List.range n).map fun i => m.testBit i).toArray
theorem bm0 (n : Nat) : Array.replicate n false = bm n 0 := by
 apply Array.ext'
 simp only [bm, Array.toList_replicate, Nat.zero_testBit]
 exact (List.map_const' ..).trans (by rw [List.length_range]) |>.symm
/-- A tactic's answer, by name. -/
theorem dT {p : Prop} [Decidable p] (h : decide p = true := by first | (with_reducible assumption) | assumption) : p := of_decide_eq_true h
section
variable {P : Program} {ops : Array Oper} {Q : Exit → Act → World → Prop} {md : Region.Mode} {S : World → Prop} {ds : List Nat} {oi : Oper} {v : Value} {fuel n m : Nat} {a a' : Act} {w : World} {T : Bool × List (List Nat × List Nat)} {B : List Nat}
theorem pA (m' i N : Nat) (h : wpAnyLast P md ops Q S ds fuel (bm n m') a' w) (hi : ops[i]? = some oi := by exact rfl) (hN : oi.dst = some N := by exact rfl) (hT : Aside0 (rtab md ops = T) := by assumption) (hc : anyT T (bm n m).toList (bm n m').toList i = true := by kernel_rfl)
 (hQ : ∀ c a w, Q (.panic c) (a.put oi.dst v) w → Q (.panic c) a w := by exact fun _ _ _ h => h) (hw : Region.wanted oi (yielded ops a.tmps) = true := by rfl) (hy : ∀ w, (execOp a.eval oi).run P w = .ok (.value v) w := by intro w'; go_simp; with_reducible rfl) (ha : a.put (some N) v = a' := by simp only [AP]; rfl) : wpAnyLast P md ops Q S ds (fuel + 1) (bm n m) a w :=
 pure_ (bm n m') hi hN (any_of hT.out hc) hQ (Or.inl ⟨hw, hy⟩) ha h
theorem pU (m' i N : Nat) (h : wpAnyLast P md ops Q S ds fuel (bm n m') a' w) (hi : ops[i]? = some oi := by exact rfl) (hN : oi.dst = some N := by exact rfl) (hT : Aside0 (rtab md ops = T) := by assumption) (hc : anyT T (bm n m).toList (bm n m').toList i = true := by kernel_rfl)
 (hQ : ∀ c a w, Q (.panic c) (a.put oi.dst undef) w → Q (.panic c) a w := by exact fun _ _ _ h => h) (hw : Region.wanted oi (yielded ops a.tmps) = false := by rfl) (ha : a.put (some N) undef = a' := by simp only [AP]; rfl) : wpAnyLast P md ops Q S ds (fuel + 1) (bm n m) a w :=
 pure_ (bm n m') hi hN (any_of hT.out hc) hQ (Or.inr ⟨hw, rfl⟩) ha h
theorem tA (m' i N : Nat) (hS : S w) (h : wpAnyLast P md ops Q S ds fuel (bm n m') a' w) (hi : ops[i]? = some oi := by exact rfl) (hN : oi.dst = some N := by exact rfl) (hT : Aside0 (rtab md ops = T) := by assumption) (hB : Aside0 (waitsOk T.2 B = true) := by assumption) (hc : takeW T B ds (bm n m).toList (bm n m').toList i = true := by kernel_rfl)
 (hQ : ∀ c a w, Q (.panic c) (a.put oi.dst v) w → Q (.panic c) a w := by exact fun _ _ _ h => h) (hw : Region.wanted oi (yielded ops a.tmps) = true := by rfl) (hy : ∀ w, S w → (execOp a.eval oi).run P w = .ok (.value v) w := by intro w' hs; (repeat obtain ⟨_, hs⟩ := hs); go_simp; with_reducible rfl) (ha : a.put (some N) v = a' := by simp only [AP]; rfl) : wpAnyLast P md ops Q S ds (fuel + 1) (bm n m) a w :=
 take_ (bm n m') hi hN (take_ofW hT.out hB.out hc) hQ (Or.inl ⟨hw, hy⟩) hS ha h
theorem nA {l : Array Bool} (h : wpAnyLast P md ops Q S ds fuel l a' w) (ha : a = a' := by show Act.put _ (some _) _ = _; simp only [AP]; rfl) : wpAnyLast P md ops Q S ds fuel l a w := norm_ ha h
end
/-- V comes out of W by new blocks and drawings. -/
def UpT (W V : World) : Prop := Up W V
theorem UpT.rfl {W : World} : UpT W W := Below.refl _ _
theorem UpT.alloc {W V : World} (h : UpT W V) (o : Obj) : UpT W (V.alloc o) := below_alloc h o
theorem UpT.drewN {W V : World} (h : UpT W V) (n : Nat) : UpT W (V.drewN n) := pw_below_drewN h n
theorem UpT.drew {W V : World} (h : UpT W V) : UpT W V.drew := below_drew1 h
/-- A tactic that is said often, by name. -/
theorem aT {p : Prop} (h : p := by (try simp only [List.map_toArray, List.map_cons, List.map_nil]); first | done | rfl | (simp only [List.length_drop, List.length_take]; rfl)) : p := h
theorem fT {p : Prop} (h : p := by first | rfl | (simp [errW_none, errW_some] <;> rfl) | (simp [*, errW_none, errW_some] <;> rfl)) : p := h
theorem Aa {p : Prop} (h : p) : Aside0 p := ⟨h⟩
section
variable {α β : Type} {d : Kd α} {d' : Kd β} {e e' : TypeId} {w W V X Y : World} {base : Nat} {ok ok' : Nat → Prop} {v u : Value} {xs : List α} {ys : List β} {g g' : Nat} {o : Obj} {A : Option Addr} {n : Nat}
theorem kP (h : W.heap[g]? = some o) (i : UpT W V := by (with_reducible repeat (first | refine UpT.drewN ?_ _ | refine UpT.drew ?_ | refine UpT.alloc ?_ _)); exact UpT.rfl) : V.heap[g]? = some o := blk_below h i
theorem cB {a : Addr} {x : Value} (h : Aside0 (Below w.heap.size w W)) (hx : w.cell? a = some x) : W.cell? a = some x := (h.out.cell (World.block_lt_of_cell? w _ hx)).trans hx
theorem rB (h : Aside0 (d.R e W base ok v xs)) (hb : Below V.heap.size V X) [Nonempty (Up W V)] : Aside0 (d.R e X base ok v xs) := ⟨Kd.R_below (rU h.out) hb⟩
theorem rE (h : Aside0 (d.R e W base ok v xs)) (ho : d'.R e' Y V.heap.size ok' u ys) (hb : Below V.heap.size V X) [Nonempty (Up W V)] : Aside0 (d.R e X base (fun k => ok k ∧ some k ≠ u.ownBlock) v xs) := ⟨Kd.R_elder' (rU h.out) (Kd.R_base ho) hb⟩
theorem vB (h : Aside0 (Kd.V d e W base ok v xs)) (hb : Below V.heap.size V X) [Nonempty (Up W V)] : Aside0 (Kd.V d e X base ok v xs) := ⟨Kd.V_below (vU h.out) hb⟩
theorem vE (h : Aside0 (Kd.V d e W base ok v xs)) (ho : d'.R e' Y V.heap.size ok' u ys) (hb : Below V.heap.size V X) [Nonempty (Up W V)] : Aside0 (Kd.V d e X base (fun k => ok k ∧ some k ≠ u.ownBlock) v xs) := ⟨Kd.V_elder' (vU h.out) (Kd.R_base ho) hb⟩
theorem vG (h : Aside0 (Kd.V d e W base ok v xs)) (hg : g = V.heap.size) (hb : Below V.heap.size V X) [Nonempty (Up W V)] : Aside0 (Kd.V d e X base (fun k => ok k ∧ k ≠ g) v xs) := ⟨Kd.V_below (Kd.V_elderB (vU h.out) g (Nat.le_of_eq hg.symm)) hb⟩
theorem kB (h : Aside0 (W.heap[g]? = some o)) (hb : Below V.heap.size V X) [Nonempty (Up W V)] : Aside0 (X.heap[g]? = some o) := ⟨blk_below (kU h.out) hb⟩
theorem sB (h : Aside0 (Below w.heap.size w W)) (hb : Below V.heap.size V X) [Nonempty (Bu w W V)] : Aside0 (Below w.heap.size w X) := ⟨below_step (bS h.out) hb⟩
theorem sU (h : Aside0 (Below w.heap.size w W)) (hb : Below V.heap.size V X) [Nonempty (Up W V)] : Aside0 (Below w.heap.size w X) := ⟨below_step (bU h.out) hb⟩
theorem gS (h : Aside0 (Below w.heap.size w W)) (hg : g = V.heap.size) [Nonempty (Bu w W V)] : Aside0 (w.heap.size ≤ g) := ⟨by rw [hg]; exact below_size (bS h.out)⟩
theorem gU (h : Aside0 (Below w.heap.size w W)) (hg : g = V.heap.size) [Nonempty (Up W V)] : Aside0 (w.heap.size ≤ g) := ⟨by rw [hg]; exact below_size (bU h.out)⟩
theorem nL (h : Aside0 (W.heap[g]? = some o)) (hg : g' = V.heap.size) [Nonempty (Up W V)] : Aside0 (g ≠ g') := ⟨by rw [hg]; exact Nat.ne_of_lt (blk_lt (kU h.out))⟩
theorem nG (h : Aside0 (W.heap[g]? = some o)) (hg : g' = V.heap.size) [Nonempty (Up W V)] : Aside0 (g' ≠ g) := ⟨by rw [hg]; exact Nat.ne_of_gt (blk_lt (kU h.out))⟩
theorem cC {cs : Array Value} {t : TypeId} (h : Aside0 (w.heap[g]? = some (.cells cs t (0, 0)))) (i : Nat) {x : Option Value} (e : cs[i]? = x := by exact rfl) : w.cell? ⟨g, i, none⟩ = x := (blk_cell h.out i).trans e
theorem fC {cs : Array Value} {t : TypeId} (h : Aside0 (w.heap[g]? = some (.cells cs t (0, 0)))) (i : Nat) : w.frozen? ⟨g, i, none⟩ = false := blk_frozen h.out i
/-- A block is not another value's own. -/
abbrev nb (k : Nat) (A : Option Addr) (n c : Nat) : Prop := some k ≠ (.slice A n c : Value).ownBlock
end
section
variable {P : Program} {ops : Array Oper} {Q : Exit → Act → World → Prop} {rest : List Oper} {o : Oper} {a : Act} {W w1 : World} {md : Region.Mode} {S : World → Prop} {ds : List Nat} {fuel n m : Nat} {T : Bool × List (List Nat × List Nat)}
theorem gD (N : Tmp) (h : wpList P ops Q (o :: rest) a W) (_hN : o.dst = some N := by with_reducible rfl) : wpList P ops Q (o :: rest) a W := h
theorem gC (f : FuncId) {as_ : Array Operand} {ts : Array TypeId} (h : wpList P ops Q (o :: rest) a W) (_ho : o.op = .call { callee := .value (.func f), args := as_, argTypes := ts } := by with_reducible rfl) : wpList P ops Q (o :: rest) a W := h
theorem gT (t : TypeId) (p : Tmp) {v : Operand} (h : wpList P ops Q (o :: rest) a W) (_ho : o.op = .store t (.tmp p) v := by with_reducible rfl) : wpList P ops Q (o :: rest) a W := h
theorem gL (N : Tmp) {f : FuncId} {fn : Func} {as_ : Array Operand} {ts : Array TypeId} (hf : P.funcs[f]? = some fn) (args : Array Value) (h : Calls P f args W fun e w' => ∃ v, e = .returned v ∧ wpList P ops Q rest (a.put (some N) v) w') (_hC : o.op = .call { callee := .value (.func f), args := as_, argTypes := ts } := by exact rfl) (hd : o.dst = some N := by exact rfl) (hg : o.guard = none := by exact rfl)
 (hname : (fn.name == "runtime.NumGoroutine") = false := by kernel_rfl) (hb : fn.body.isSome = true := by exact rfl)
 (hargs : as_.map a.eval = args := by (try simp only [List.map_toArray, List.map_cons, List.map_nil]); first | done | rfl | (simp only [List.length_drop, List.length_take]; rfl)) : wpList P ops Q (o :: rest) a W := goesL_ (some N) hd hg hf hname hb args _hC hargs h
theorem bE {N : Tmp} (cs : Array Value) (t : TypeId) (h : ∀ g, g = W.heap.size → ∀ w1, w1.heap[g]? = some (.cells cs t (0, 0)) → Below W.heap.size W w1 → wpList P ops Q rest (a.put o.dst (.pointer (some ⟨g, 0, none⟩))) w1)
 (hd : o.dst = some N := by exact rfl) (hgd : o.guard = none := by exact rfl) (hrun : (execOp a.eval o).run P W = .ok (.value (.pointer (some ⟨W.heap.size, 0, none⟩))) (W.alloc (.cells cs t (0, 0))) := by first | (go_simp; done) | (go_simp; rfl)) : wpList P ops Q (o :: rest) a W := box_event hgd hd hrun h
theorem bT {Kc : Act → World → Prop} (N : Tmp) (cs : Array Value) (t : TypeId) (h : ∀ g, g = W.heap.size → ∀ w1, w1.heap[g]? = some (.cells cs t (0, 0)) → Below W.heap.size W w1 → Kc (a.put o.dst (.pointer (some ⟨g, 0, none⟩))) w1)
 (hd : o.dst = some N := by exact rfl) (hw : Region.wanted o (yielded ops a.tmps) = true := by exact rfl) (hrun : (execOp a.eval o).run P W = .ok (.value (.pointer (some ⟨W.heap.size, 0, none⟩))) (W.alloc (.cells cs t (0, 0))) := by first | (go_simp; done) | (go_simp; rfl)) :
 if Region.wanted o (yielded ops a.tmps) = true then Oper.wp P o a W Kc Q else Kc (a.put o.dst undef) W := box_step hw hd hrun h
theorem sE (w1 : World) {t : TypeId} {p : Tmp} {v : Operand} (h : ∀ w', w' = w1 → wpList P ops Q rest a w') (ho : o.op = .store t (.tmp p) v := by exact rfl) (hg : o.guard = none := by exact rfl) (hn : o.dst = none := by exact rfl) (hr : (execOp a.eval o).run P W = .ok .skip w1 := by first | (go_simp; done) | (go_simp; rfl)) : wpList P ops Q (o :: rest) a W := store_event hg ho hn hr h
theorem oA (m' i N : Nat) (h : ∀ K : Act → World → Prop, Shut (∀ a' w', S w' → (S w' → wpAnyLast P md ops Q S ds fuel (bm n m') a' w') → K a' w') → if Region.wanted o (yielded ops a.tmps) = true then Oper.wp P o a W K Q else K (a.put (some N) undef) W)
 (hi : ops[i]? = some o := by exact rfl) (hN : o.dst = some N := by exact rfl) (hT : Aside0 (rtab md ops = T) := by assumption) (hc : (readyT T.2 (bm n m).toList == [i] && (bm n m).toList.set i true == (bm n m').toList) = true := by kernel_rfl) (hd : i ∉ ds := by decide) : wpAnyLast P md ops Q S ds (fuel + 1) (bm n m) a W :=
 one_ (bm n m') hi hN (one_of hT.out hc) hd h
theorem oN (m' i : Nat) (h : ∀ K : Act → World → Prop, Shut (∀ a' w', S w' → (S w' → wpAnyLast P md ops Q S ds fuel (bm n m') a' w') → K a' w') → if Region.wanted o (yielded ops a.tmps) = true then Oper.wp P o a W K Q else K (a.put none undef) W)
 (hi : ops[i]? = some o := by exact rfl) (hN : o.dst = none := by exact rfl) (hT : Aside0 (rtab md ops = T) := by assumption) (hc : (readyT T.2 (bm n m).toList == [i] && (bm n m).toList.set i true == (bm n m').toList) = true := by kernel_rfl) (hd : i ∉ ds := by decide) : wpAnyLast P md ops Q S ds (fuel + 1) (bm n m) a W :=
 one_ (bm n m') hi hN (one_of hT.out hc) hd h
theorem gR {N : Option Tmp} {K : Act → World → Prop} {f : FuncId} {fn : Func} {as_ : Array Operand} {ts : Array TypeId} (hf : P.funcs[f]? = some fn) (args : Array Value) (h : Calls P f args W fun e w' => ∃ v, e = .returned v ∧ K (a.put N v) w') (hname : (fn.name == "runtime.NumGoroutine") = false := by kernel_rfl) (hb : fn.body.isSome = true := by exact rfl)
 (hw : Region.wanted o (yielded ops a.tmps) = true := by rfl) (hN : o.dst = N := by exact rfl) (hop : o.op = .call { callee := .value (.func f), args := as_, argTypes := ts } := by exact rfl)
 (hargs : as_.map a.eval = args := by (try simp only [List.map_toArray, List.map_cons, List.map_nil]); first | done | rfl | (simp only [List.length_drop, List.length_take]; rfl)) : if Region.wanted o (yielded ops a.tmps) = true then Oper.wp P o a W K Q else K (a.put N undef) W := goes_ hf hname hb args hw hN hop hargs h
end

end Go.Proofs.Ytcjpikjbjehjeaa.PAllocB
