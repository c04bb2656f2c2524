/- Lists of extents in plain Lean: validity, the normal form, cutting: what the printed functions compute. -/
import Derived.Test.YtcgihjpnemnkeaaPExtentRestoresx
namespace Go.Proofs.Ytcgihjpnemnkeaa.PExtentRestores
open Go.RowKit Go.Proofs.YtcgihjpnemnkeaaW.PrintWords

theorem w64 {n : Int} (h1 : -9223372036854775808 ≤ n) (h2 : n ≤ 9223372036854775807) : wrap64 n = n := by unfold wrap64; omega

/-- A valid extent. -/
def Ok (x : S33) : Prop := 0 ≤ x.f0 ∧ 0 ≤ x.f2 ∧ 1 ≤ x.f1 ∧ x.f0 + x.f1 ≤ 65536 ∧ x.f2 + x.f1 ≤ 65536
def okB3 (a n s : Int) : Bool := decide (0 ≤ a ∧ 0 ≤ s ∧ 1 ≤ n ∧ a + n ≤ 65536 ∧ s + n ≤ 65536)
def okB (x : S33) : Bool := okB3 x.f0 x.f1 x.f2
theorem okB_iff {x : S33} : okB x = true ↔ Ok x := by unfold okB okB3 Ok; exact decide_eq_true_iff

/-- A valid list whose first extent begins at b or behind. -/
def Val (b : Int) : List S33 → Prop
  | [] => True
  | x :: l => Ok x ∧ b ≤ x.f0 ∧ Val (x.f0 + x.f1) l
def valB (b : Int) : List S33 → Bool
  | [] => true
  | x :: l => okB x && (decide (b ≤ x.f0) && valB (x.f0 + x.f1) l)
theorem valB_iff : ∀ {l : List S33} {b : Int}, valB b l = true ↔ Val b l
  | [], b => by simp [valB, Val]
  | x :: l, b => by simp [valB, Val, okB_iff, valB_iff (l := l)]
theorem Val.mono : ∀ {l : List S33} {b c : Int}, c ≤ b → Val b l → Val c l
  | [], _, _, _, _ => trivial
  | _ :: _, _, _, h, ⟨h1, h2, h3⟩ => ⟨h1, by omega, h3⟩
theorem Val.ok : ∀ {l : List S33} {b : Int}, Val b l → ∀ x ∈ l, Ok x ∧ b ≤ x.f0
  | [], _, _, _, h => by simp at h
  | y :: l, b, ⟨h1, h2, h3⟩, x, h => by
    rcases List.mem_cons.1 h with rfl | h
    · exact ⟨h1, h2⟩
    · have := Val.ok h3 x h
      have h1' := h1
      unfold Ok at h1'
      exact ⟨this.1, by omega⟩

/-- The block behind a list. -/
def endOf (l : List S33) : Int := match l.getLast? with | none => 0 | some y => y.f0 + y.f1
@[simp] theorem endOf_nil : endOf [] = 0 := rfl
@[simp] theorem endOf_snoc (l : List S33) (x : S33) : endOf (l ++ [x]) = x.f0 + x.f1 := by simp [endOf]
theorem Val.snoc {l : List S33} {b : Int} {x : S33} (h : Val b l) (hb : b ≤ x.f0) (hx : Ok x) (he : ∀ y, l.getLast? = some y → y.f0 + y.f1 ≤ x.f0) : Val b (l ++ [x]) := by
  induction l generalizing b with
  | nil => exact ⟨hx, hb, trivial⟩
  | cons y l ih =>
    obtain ⟨h1, h2, h3⟩ := h
    refine ⟨h1, h2, ih h3 ?_ ?_⟩
    · cases l with
      | nil => exact he y rfl
      | cons z l =>
        obtain ⟨z', hz⟩ : ∃ z', (z :: l).getLast? = some z' := by cases hh : (z :: l).getLast? with | none => simp at hh | some v => exact ⟨v, rfl⟩
        have h4 := he z' (by rw [List.getLast?_cons, hz]; rfl)
        have h5 := (Val.ok h3 z' (List.mem_of_getLast? hz))
        have h6 := h5.1
        unfold Ok at h6
        omega
    · intro z hz
      refine he z ?_
      rw [List.getLast?_cons, hz]; rfl
theorem Val.append : ∀ {l m : List S33} {b : Int}, Val b l → Val b m → (∀ y, l.getLast? = some y → Val (y.f0 + y.f1) m) → Val b (l ++ m)
  | [], _, _, _, h, _ => h
  | [x], m, b, ⟨h1, h2, _⟩, _, h => ⟨h1, h2, h x rfl⟩
  | x :: y :: l, m, b, ⟨h1, h2, h3⟩, h4, h => by
    refine ⟨h1, h2, Val.append h3 ?_ (fun z hz => h z (by rw [List.getLast?_cons_cons]; exact hz))⟩
    obtain ⟨z, hz⟩ : ∃ z, (y :: l).getLast? = some z := by cases hh : (y :: l).getLast? with | none => simp at hh | some v => exact ⟨v, rfl⟩
    have h5 := h z (by rw [List.getLast?_cons_cons]; exact hz)
    have h6 := (Val.ok h3 z (List.mem_of_getLast? hz))
    have h7 := h6.1
    unfold Ok at h7
    exact Val.mono (by omega) h5
theorem Val.left : ∀ {l m : List S33} {b : Int}, Val b (l ++ m) → Val b l
  | [], _, _, _ => trivial
  | _ :: _, _, _, ⟨h1, h2, h3⟩ => ⟨h1, h2, Val.left h3⟩
theorem Val.right : ∀ {l m : List S33} {b : Int}, Val b (l ++ m) → Val b m
  | [], _, _, h => h
  | x :: l, m, b, ⟨h1, h2, h3⟩ => by
    have := Val.right h3
    unfold Ok at h1
    exact Val.mono (by omega) this
theorem Val.behind : ∀ {l m : List S33} {b : Int}, Val b (l ++ m) → ∀ y, l.getLast? = some y → Val (y.f0 + y.f1) m
  | [], _, _, _, y, h => by simp at h
  | [x], m, b, ⟨_, _, h3⟩, y, h => by simp at h; subst h; exact h3
  | x :: z :: l, m, b, ⟨_, _, h3⟩, y, h => Val.behind h3 y (by rw [List.getLast?_cons_cons] at h; exact h)

/-- An extent appended to a normal form. -/
def push (l : List S33) (x : S33) : List S33 :=
  match l.getLast? with
  | none => [x]
  | some y => if y.f0 + y.f1 = x.f0 ∧ y.f2 + y.f1 = x.f2 then l.dropLast ++ [⟨y.f0, y.f1 + x.f1, y.f2⟩] else l ++ [x]
def joinL (l : List S33) : List S33 := l.foldl push []

theorem last_cases (l : List S33) : l = [] ∨ ∃ m y, l = m ++ [y] := by
  rcases List.eq_nil_or_concat l with h | ⟨m, y, h⟩
  · exact .inl h
  · exact .inr ⟨m, y, by simpa using h⟩
@[simp] theorem push_nil (x : S33) : push [] x = [x] := rfl
theorem push_snoc (m : List S33) (y x : S33) : push (m ++ [y]) x = if y.f0 + y.f1 = x.f0 ∧ y.f2 + y.f1 = x.f2 then m ++ [⟨y.f0, y.f1 + x.f1, y.f2⟩] else m ++ [y, x] := by
  unfold push
  simp
theorem push_val {l : List S33} {x : S33} {b : Int} (h : Val b l) (hb : b ≤ x.f0) (hx : Ok x) (he : ∀ y, l.getLast? = some y → y.f0 + y.f1 ≤ x.f0) : Val b (push l x) ∧ ∃ y, (push l x).getLast? = some y ∧ y.f0 + y.f1 = x.f0 + x.f1 := by
  rcases last_cases l with rfl | ⟨m, y, rfl⟩
  · exact ⟨⟨hx, hb, trivial⟩, x, rfl, rfl⟩
  · rw [push_snoc]
    split
    · rename_i hc
      have hy := (Val.ok h y (by simp)).1
      have hx' := hx
      unfold Ok at hy hx'
      refine ⟨Val.snoc (Val.left h) (Val.ok h y (by simp)).2 (by unfold Ok; simp only; omega) (fun z hz => ?_), ⟨y.f0, y.f1 + x.f1, y.f2⟩, by simp, by show y.f0 + (y.f1 + x.f1) = _; omega⟩
      have := Val.behind h z hz
      exact this.2.1
    · rw [show m ++ [y, x] = (m ++ [y]) ++ [x] by simp]
      exact ⟨Val.snoc h hb hx he, x, by simp, rfl⟩
/-- The list's normal form is valid, and ends where the list ends. -/
theorem foldl_push_val : ∀ {l acc : List S33} {b : Int}, Val b acc → Val b l → (∀ y, acc.getLast? = some y → Val (y.f0 + y.f1) l) → Val b (l.foldl push acc)
  | [], _, _, h, _, _ => h
  | x :: l, acc, b, h, ⟨h1, h2, h3⟩, h4 => by
    have hp := push_val (x := x) h h2 h1 (fun y hy => (h4 y hy).2.1)
    refine foldl_push_val (l := l) hp.1 ?_ ?_
    · have h1' := h1
      unfold Ok at h1'
      exact Val.mono (by omega) h3
    · obtain ⟨y, hy, he⟩ := hp.2
      intro z hz
      rw [hy] at hz
      cases hz
      rw [he]; exact h3
theorem joinL_val {l : List S33} {b : Int} (h : Val b l) : Val b (joinL l) := foldl_push_val trivial h (by simp)

/-- The part of an extent between two blocks. -/
def partE (x : S33) (a b : Int) : S33 := ⟨max x.f0 a, min (x.f0 + x.f1) b - max x.f0 a, x.f2 + max x.f0 a - x.f0⟩
def partL (x : S33) (a b : Int) : List S33 := if max x.f0 a < min (x.f0 + x.f1) b then [partE x a b] else []
def partsL (l : List S33) (a b : Int) : List S33 := l.flatMap (fun x => partL x a b)
@[simp] theorem partsL_nil (a b : Int) : partsL [] a b = [] := rfl
@[simp] theorem partsL_cons (x : S33) (l : List S33) (a b : Int) : partsL (x :: l) a b = partL x a b ++ partsL l a b := by simp [partsL]
theorem mem_partL {x y : S33} {a b : Int} (h : y ∈ partL x a b) : y = partE x a b ∧ max x.f0 a < min (x.f0 + x.f1) b := by
  unfold partL at h
  split at h
  · rename_i hc; simp at h; exact ⟨h, hc⟩
  · simp at h
theorem partE_ok {x : S33} {a b : Int} (hx : Ok x) (h : max x.f0 a < min (x.f0 + x.f1) b) : Ok (partE x a b) := by
  unfold Ok at hx ⊢
  unfold partE
  simp only
  omega
theorem partL_val {x : S33} {a b c : Int} (hx : Ok x) (hc : c ≤ max x.f0 a) : Val c (partL x a b) := by
  unfold partL
  split
  · exact ⟨partE_ok hx (by assumption), by unfold partE; simpa using hc, trivial⟩
  · trivial
theorem partsL_val : ∀ {l : List S33} {c a b : Int}, Val c l → Val c (partsL l a b)
  | [], _, _, _, _ => trivial
  | x :: l, c, a, b, ⟨h1, h2, h3⟩ => by
    have h3' := partsL_val (a := a) (b := b) h3
    rw [partsL_cons]
    have h1' := h1
    unfold Ok at h1'
    refine Val.append (partL_val h1 (by omega)) (Val.mono (by omega) h3') (fun y hy => ?_)
    obtain ⟨rfl, hlt⟩ := mem_partL (List.mem_of_getLast? hy)
    refine Val.mono ?_ h3'
    unfold partE
    simp only
    omega
/-- All parts end at b or before, and begin at a or behind. -/
theorem partsL_in {l : List S33} {a b : Int} {y : S33} (h : y ∈ partsL l a b) : a ≤ y.f0 ∧ y.f0 + y.f1 ≤ b := by
  unfold partsL at h
  obtain ⟨x, _, hx⟩ := List.mem_flatMap.1 h
  obtain ⟨rfl, _⟩ := mem_partL hx
  unfold partE
  simp only
  omega
theorem partsL_val2 {l : List S33} {c a b : Int} (h : Val c l) : Val (max c a) (partsL l a b) := by
  have h1 := partsL_val (a := a) (b := b) h
  cases hp : partsL l a b with
  | nil => trivial
  | cons y m =>
    rw [hp] at h1
    obtain ⟨h2, h3, h4⟩ := h1
    have := (partsL_in (l := l) (a := a) (b := b) (y := y) (by rw [hp]; simp)).1
    exact ⟨h2, by omega, h4⟩
/-- A list without a range: in one pass, or in two. -/
def restL (l : List S33) (a b : Int) : List S33 := l.flatMap (fun x => partL x 0 a ++ partL x b 65536)
theorem partsL_none : ∀ {l : List S33} {c a : Int}, Val c l → a ≤ c → partsL l 0 a = []
  | [], _, _, _, _ => rfl
  | x :: l, c, a, ⟨h1, h2, h3⟩, h => by
    unfold Ok at h1
    rw [partsL_cons, partsL_none h3 (by omega)]
    unfold partL
    rw [if_neg (by omega)]
    rfl
theorem restL_parts : ∀ {l : List S33} {c a b : Int}, Val c l → a ≤ b → restL l a b = partsL l 0 a ++ partsL l b 65536
  | [], _, _, _, _, _ => rfl
  | x :: l, c, a, b, ⟨h1, h2, h3⟩, h => by
    have ih := restL_parts h3 h
    show (partL x 0 a ++ partL x b 65536) ++ restL l a b = _
    rw [ih, partsL_cons, partsL_cons]
    by_cases hp : partL x b 65536 = []
    · rw [hp]; simp
    · have hlt : b < x.f0 + x.f1 := by
        unfold partL at hp
        split at hp
        · omega
        · exact absurd rfl hp
      rw [partsL_none h3 (by omega)]
      simp
theorem rest_val {l : List S33} {c a b : Int} (h : Val c l) (hc : 0 ≤ c) (hb : a ≤ b) : Val 0 (partsL l 0 a ++ partsL l b 65536) := by
  refine Val.append (Val.mono hc (partsL_val h)) (Val.mono hc (partsL_val h)) (fun y hy => ?_)
  have := (partsL_in (List.mem_of_getLast? hy)).2
  exact Val.mono (by omega) (partsL_val2 (b := 65536) h)

end Go.Proofs.Ytcgihjpnemnkeaa.PExtentRestores
