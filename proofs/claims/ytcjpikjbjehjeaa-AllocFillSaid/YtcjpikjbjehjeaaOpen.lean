/- How the arguments of a row are opened into plain Lean values: whatever nesting of whole numbers, bools, structs and slices. -/
import Derived.Test.YtcjpikjbjehjeaaWWords
import Derived.Deep.Slices
import Derived.OpenShut
namespace Go.Proofs.YtcjpikjbjehjeaaOpen
open Go.RowKit Go.Proofs.YtcjpikjbjehjeaaW.PrintWords

/-- Whatever is read at type t is a value of the kind d. -/
def Opens (P : Program) (t : TypeId) {α : Type} (d : Kd α) (q : α → Prop) : Prop :=
  ∀ (H : Type) (enc : TypeId × Value → H) (W : World) (base : Nat) (spare : Nat → Bool) (held : Bool) (fuel : Nat) (cs : List Value) (x : DataW H × List MemPlace),
    DataW.trod enc P W base spare held fuel t cs = some x → ∃ a, d.K W a cs ∧ q a

theorem Opens.int {P : Program} {t : TypeId} {k : IntKind} (ht : P.underlying t = some (.int k)) : Opens P t (Kd.int k) (fun n => (Lit.int k n).wf = true) := by
  intro H enc W base spare held fuel cs x h
  obtain ⟨n, rfl, _, hw⟩ := DataW.trod_int ht h
  exact ⟨n, rfl, hw⟩

theorem Opens.bool {P : Program} {t : TypeId} (ht : P.underlying t = some .bool) : Opens P t Kd.bool (fun _ => True) := by
  intro H enc W base spare held fuel cs x h
  obtain ⟨n, rfl, _⟩ := DataW.trod_bool ht h
  exact ⟨n, rfl, trivial⟩

theorem Opens.slice {P : Program} {t e : TypeId} {α : Type} {d : Kd α} {q : α → Prop} (ht : P.underlying t = some (.slice e)) (hc : P.cellsOf e = d.sz) (he : Opens P e d q) :
    Opens P t (Kd.slice e d) (fun l => l.length ≤ maxLen ∧ ∀ x ∈ l, q x) := by
  intro H enc W base spare held fuel cs x h
  rcases Deep.open_slice ht h with ⟨rfl, _⟩ | ⟨a, len, cap, m, n, D, Pl, rfl, hb, hl, hm, hmm, rfl, hx⟩
  · exact ⟨[], ⟨none, 0, rfl, Nat.le_refl _, rfl, by simp, fun h0 => absurd h0 (by simp)⟩, by simp, by simp⟩
  · have hlm : len ≤ m := by rw [hmm]; split <;> omega
    have hall : ∀ i, i < len → ∃ y : α, (∃ cs', W.cells? base (a.add (i * P.cellsOf e)) (P.cellsOf e) = some cs' ∧ d.K W y cs') ∧ q y := by
      intro i hi
      obtain ⟨cs', h1, h2⟩ := hx i (Nat.lt_of_lt_of_le hi hlm)
      obtain ⟨y, hy, hq⟩ := he H enc W base spare held n cs' _ h2
      exact ⟨y, ⟨cs', h1, hy⟩, hq⟩
    clear hx
    have : ∃ ys : List α, ys.length = len ∧ ∀ i y, ys[i]? = some y → (∃ cs', W.cells? base (a.add (i * P.cellsOf e)) (P.cellsOf e) = some cs' ∧ d.K W y cs') ∧ q y := by
      clear hlm hl hm hmm h
      induction len with
      | zero => exact ⟨[], rfl, by simp⟩
      | succ len ih =>
        obtain ⟨ys, h1, h2⟩ := ih (fun i hi => hall i (by omega))
        obtain ⟨y, hy⟩ := hall len (by omega)
        refine ⟨ys ++ [y], by simp [h1], fun i z hz => ?_⟩
        by_cases hi : i < ys.length
        · rw [List.getElem?_append_left hi] at hz
          exact h2 i z hz
        · have hi2 : i = ys.length := by
            have := (List.getElem?_eq_some_iff.1 hz).1
            simp at this
            omega
          subst hi2
          simp at hz
          subst hz
          rw [h1]
          exact hy
    obtain ⟨ys, hlen, hys⟩ := this
    refine ⟨ys, ⟨some a, cap, by rw [hlen], by omega, rfl, ?_, ?_⟩, by omega, ?_⟩
    · rw [hlen]; unfold maxLen at hm; omega
    · intro _
      refine ⟨a, rfl, fun j p hp => ?_⟩
      obtain ⟨⟨cs', h1, h2⟩, _⟩ := hys j p hp
      obtain ⟨_, h3, h4⟩ := World.cells?_some h1
      refine ⟨cs', by rw [h3, hc], h2, fun i u hu => ?_⟩
      have hi : i < P.cellsOf e := by rw [← h3]; exact (List.getElem?_eq_some_iff.1 hu).1
      have := h4 i hi
      rw [hu, Deep.add_add, hc] at this
      exact this
    · intro y hy
      obtain ⟨i, hi⟩ := List.getElem?_of_mem hy
      exact (hys i y hi).2

theorem take_more (cs : List Value) (o s : Nat) : (cs.drop o).take s ++ cs.drop (o + s) = cs.drop o := by
  rw [← List.drop_drop, List.take_append_drop]

theorem take_last (cs : List Value) (o s : Nat) (h : cs.length = o + s) : (cs.drop o).take s = cs.drop o := by
  rw [List.take_of_length_le]; simp; omega

theorem Opens.struct2 {P : Program} {t : TypeId} {f0 f1 : Field} {α β δ : Type} {d0 : Kd α} {d1 : Kd β} {q0 : α → Prop} {q1 : β → Prop} (hs : P.underlying t = some (.struct #[f0, f1]))
    (o0 : f0.offset = 0) (o1 : f1.offset = P.cellsOf f0.type) (ct : P.cellsOf t = P.cellsOf f0.type + P.cellsOf f1.type)
    (h0 : Opens P f0.type d0 q0) (h1 : Opens P f1.type d1 q1) (g : δ → α × β) (mk : α → β → δ) (hg : ∀ a b, g (mk a b) = (a, b)) :
    Opens P t (Kd.iso (Kd.pair d0 d1) g) (fun x => q0 (g x).1 ∧ q1 (g x).2) := by
  intro H enc W base spare held fuel cs x h
  obtain ⟨xs, n, rfl, _, hl, hxs, hf⟩ := DataW.trod_struct hs h
  have hxs : xs.length = 2 := hxs
  match xs, hxs with
  | [y0, y1], _ =>
    have e0 := hf 0 f0 rfl
    have e1 := hf 1 f1 rfl
    obtain ⟨a, ka, qa⟩ := h0 H enc W base spare held n _ _ e0
    obtain ⟨b, kb, qb⟩ := h1 H enc W base spare held n _ _ e1
    refine ⟨mk a b, ?_, by simp only [hg]; exact ⟨qa, qb⟩⟩
    show ∃ c0 c1, cs = c0 ++ c1 ∧ d0.K W (g (mk a b)).1 c0 ∧ d1.K W (g (mk a b)).2 c1
    rw [hg]
    refine ⟨_, _, ?_, ka, kb⟩
    rw [o1, take_last _ (P.cellsOf f0.type) _ (by rw [hl, ct]), o0]
    have := take_more cs 0 (P.cellsOf f0.type)
    rw [Nat.zero_add] at this
    rw [this]; rfl

theorem Opens.struct3 {P : Program} {t : TypeId} {f0 f1 f2 : Field} {α β γ δ : Type} {d0 : Kd α} {d1 : Kd β} {d2 : Kd γ} {q0 : α → Prop} {q1 : β → Prop} {q2 : γ → Prop} (hs : P.underlying t = some (.struct #[f0, f1, f2]))
    (o0 : f0.offset = 0) (o1 : f1.offset = P.cellsOf f0.type) (o2 : f2.offset = P.cellsOf f0.type + P.cellsOf f1.type) (ct : P.cellsOf t = P.cellsOf f0.type + P.cellsOf f1.type + P.cellsOf f2.type)
    (h0 : Opens P f0.type d0 q0) (h1 : Opens P f1.type d1 q1) (h2 : Opens P f2.type d2 q2) (g : δ → α × β × γ) (mk : α → β → γ → δ) (hg : ∀ a b c, g (mk a b c) = (a, b, c)) :
    Opens P t (Kd.iso (Kd.pair d0 (Kd.pair d1 d2)) g) (fun x => q0 (g x).1 ∧ q1 (g x).2.1 ∧ q2 (g x).2.2) := by
  intro H enc W base spare held fuel cs x h
  obtain ⟨xs, n, rfl, _, hl, hxs, hf⟩ := DataW.trod_struct hs h
  have hxs : xs.length = 3 := hxs
  match xs, hxs with
  | [y0, y1, y2], _ =>
    have e0 := hf 0 f0 rfl
    have e1 := hf 1 f1 rfl
    have e2 := hf 2 f2 rfl
    obtain ⟨a, ka, qa⟩ := h0 H enc W base spare held n _ _ e0
    obtain ⟨b, kb, qb⟩ := h1 H enc W base spare held n _ _ e1
    obtain ⟨c, kc, qc⟩ := h2 H enc W base spare held n _ _ e2
    refine ⟨mk a b c, ?_, by simp only [hg]; exact ⟨qa, qb, qc⟩⟩
    show ∃ c0 c1, cs = c0 ++ c1 ∧ d0.K W (g (mk a b c)).1 c0 ∧ ∃ c2 c3, c1 = c2 ++ c3 ∧ d1.K W (g (mk a b c)).2.1 c2 ∧ d2.K W (g (mk a b c)).2.2 c3
    rw [hg]
    refine ⟨_, _, ?_, ka, _, _, rfl, kb, kc⟩
    rw [o1, o2, take_last _ (P.cellsOf f0.type + P.cellsOf f1.type) _ (by rw [hl, ct]), take_more, o0]
    have := take_more cs 0 (P.cellsOf f0.type)
    rw [Nat.zero_add] at this
    rw [this]; rfl

theorem Opens.struct4 {P : Program} {t : TypeId} {f0 f1 f2 f3 : Field} {α β γ ε δ : Type} {d0 : Kd α} {d1 : Kd β} {d2 : Kd γ} {d3 : Kd ε} {q0 : α → Prop} {q1 : β → Prop} {q2 : γ → Prop} {q3 : ε → Prop} (hs : P.underlying t = some (.struct #[f0, f1, f2, f3]))
    (o0 : f0.offset = 0) (o1 : f1.offset = P.cellsOf f0.type) (o2 : f2.offset = P.cellsOf f0.type + P.cellsOf f1.type) (o3 : f3.offset = P.cellsOf f0.type + P.cellsOf f1.type + P.cellsOf f2.type) (ct : P.cellsOf t = P.cellsOf f0.type + P.cellsOf f1.type + P.cellsOf f2.type + P.cellsOf f3.type)
    (h0 : Opens P f0.type d0 q0) (h1 : Opens P f1.type d1 q1) (h2 : Opens P f2.type d2 q2) (h3 : Opens P f3.type d3 q3) (g : δ → α × β × γ × ε) (mk : α → β → γ → ε → δ) (hg : ∀ a b c d, g (mk a b c d) = (a, b, c, d)) :
    Opens P t (Kd.iso (Kd.pair d0 (Kd.pair d1 (Kd.pair d2 d3))) g) (fun x => q0 (g x).1 ∧ q1 (g x).2.1 ∧ q2 (g x).2.2.1 ∧ q3 (g x).2.2.2) := by
  intro H enc W base spare held fuel cs x h
  obtain ⟨xs, n, rfl, _, hl, hxs, hf⟩ := DataW.trod_struct hs h
  have hxs : xs.length = 4 := hxs
  match xs, hxs with
  | [y0, y1, y2, y3], _ =>
    have e0 := hf 0 f0 rfl
    have e1 := hf 1 f1 rfl
    have e2 := hf 2 f2 rfl
    have e3 := hf 3 f3 rfl
    obtain ⟨a, ka, qa⟩ := h0 H enc W base spare held n _ _ e0
    obtain ⟨b, kb, qb⟩ := h1 H enc W base spare held n _ _ e1
    obtain ⟨c, kc, qc⟩ := h2 H enc W base spare held n _ _ e2
    obtain ⟨d, kd, qd⟩ := h3 H enc W base spare held n _ _ e3
    refine ⟨mk a b c d, ?_, by simp only [hg]; exact ⟨qa, qb, qc, qd⟩⟩
    show ∃ c0 c1, cs = c0 ++ c1 ∧ d0.K W (g (mk a b c d)).1 c0 ∧ ∃ c2 c3, c1 = c2 ++ c3 ∧ d1.K W (g (mk a b c d)).2.1 c2 ∧ ∃ c4 c5, c3 = c4 ++ c5 ∧ d2.K W (g (mk a b c d)).2.2.1 c4 ∧ d3.K W (g (mk a b c d)).2.2.2 c5
    rw [hg]
    refine ⟨_, _, ?_, ka, _, _, rfl, kb, _, _, rfl, kc, kd⟩
    rw [o1, o2, o3, take_last _ (P.cellsOf f0.type + P.cellsOf f1.type + P.cellsOf f2.type) _ (by rw [hl, ct]), take_more, take_more, o0]
    have := take_more cs 0 (P.cellsOf f0.type)
    rw [Nat.zero_add] at this
    rw [this]; rfl

/-- An argument that is a slice. -/
theorem open_slice_arg {P : Program} {t e : TypeId} {α : Type} {d : Kd α} {q : List α → Prop} (ho : Opens P t (Kd.slice e d) q) {H : Type} {enc : TypeId × Value → H} {W : World} {base : Nat} {spare : Nat → Bool} {held : Bool} {A : Option Addr} {len cap : Nat} {x : DataW H} {ps : List MemPlace}
    (h : DataW.Trod enc P W base spare held t (.slice A len cap) x ps) : ∃ l : List α, len = l.length ∧ len ≤ cap ∧ d.C W A l.length l ∧ q l := by
  obtain ⟨fuel, hf⟩ := h
  obtain ⟨l, ⟨A', c, he, hl, hC⟩, hq⟩ := ho H enc W base spare held fuel _ _ hf
  simp [Value.cells] at he
  obtain ⟨rfl, rfl, rfl⟩ := he
  exact ⟨l, rfl, hl, hC, hq⟩

/-- An argument that is a struct. -/
theorem open_agg_arg {P : Program} {t : TypeId} {α : Type} {d : Kd α} {q : α → Prop} (ho : Opens P t d q) {H : Type} {enc : TypeId × Value → H} {W : World} {base : Nat} {spare : Nat → Bool} {held : Bool} {cs : Array Value} {x : DataW H} {ps : List MemPlace}
    (h : DataW.Trod enc P W base spare held t (.agg cs) x ps) : ∃ a : α, d.K W a cs.toList ∧ q a := by
  obtain ⟨fuel, hf⟩ := h
  exact ho H enc W base spare held fuel _ _ hf

theorem nums_of {k : IntKind} : ∀ (cs : List Value), (∀ i, i < cs.length → ∃ z, cs[i]? = some (.int k z) ∧ (Lit.int k z).wf = true) → ∃ l : List Int, l.length = cs.length ∧ cs = l.map (Value.int k) ∧ ∀ z ∈ l, (Lit.int k z).wf = true
  | [], _ => ⟨[], rfl, rfl, by simp⟩
  | c :: cs, h => by
    obtain ⟨z, hz, hw⟩ := h 0 (by simp)
    obtain ⟨l, h1, h2, h3⟩ := nums_of cs (fun i hi => by have := h (i + 1) (by simpa using hi); simpa using this)
    simp at hz
    refine ⟨z :: l, by simp [h1], by simp [hz, ← h2], fun x hx => ?_⟩
    rcases List.mem_cons.1 hx with rfl | hx
    · exact hw
    · exact h3 x hx

/-- An argument that is an array of numbers. -/
theorem open_array_arg {P : Program} {t e : TypeId} {n : Nat} {k : IntKind} (ht : P.underlying t = some (.array n e)) (he : P.underlying e = some (.int k)) (hc : P.cellsOf e = 1) (hct : P.cellsOf t = n) {H : Type} {enc : TypeId × Value → H} {W : World} {base : Nat} {spare : Nat → Bool} {held : Bool} {fuel : Nat} {cs : List Value} {x : DataW H × List MemPlace}
    (h : DataW.trod enc P W base spare held fuel t cs = some x) : ∃ l : List Int, l.length = n ∧ cs = l.map (Value.int k) ∧ ∀ z ∈ l, (Lit.int k z).wf = true := by
  obtain ⟨xs, m, rfl, _, hl, hxs, hf⟩ := DataW.trod_array ht h
  rw [hct] at hl
  obtain ⟨l, h1, h2, h3⟩ := nums_of (k := k) cs (fun i hi => by
    have e1 := hf i (by omega)
    rw [hc, Nat.mul_one, List.getElem?_eq_getElem (by omega)] at e1
    obtain ⟨z, e2, _, hw⟩ := DataW.trod_int he e1
    refine ⟨z, ?_, hw⟩
    have e3 : cs[i]? = (List.take 1 (List.drop i cs))[0]? := by simp
    rw [e3, e2]; rfl)
  exact ⟨l, by omega, h2, h3⟩

end Go.Proofs.YtcjpikjbjehjeaaOpen
