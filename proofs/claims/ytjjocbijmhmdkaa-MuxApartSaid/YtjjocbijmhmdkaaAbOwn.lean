import Derived.Test.YtjjocbijmhmdkaaAbX
namespace Ab
open Go
set_option autoImplicit false
set_option linter.unusedVariables false
set_option linter.unusedSimpArgs false

/-! ### Pieces of the heap that are one's own, side by side -/
abbrev PH := Nat → Option AObj
abbrev Chunk := PH → Prop

def PH.le (f g : PH) : Prop := ∀ i o, f i = some o → g i = some o
def PH.minus (g f : PH) : PH := fun i => if (f i).isSome then none else g i
def PH.one (i : Nat) (o : AObj) : PH := fun j => if j = i then some o else none

theorem PH.le.rfl {f : PH} : f.le f := fun _ _ h => h
theorem PH.le.trans {f g k : PH} (h : f.le g) (h' : g.le k) : f.le k := fun i o e => h' i o (h i o e)
theorem PH.minus_some {g f : PH} {i : Nat} {o : AObj} : g.minus f i = some o ↔ f i = none ∧ g i = some o := by
  unfold PH.minus
  cases f i <;> simp
theorem PH.minus_le {g f : PH} : (g.minus f).le g := fun i o h => (minus_some.1 h).2
theorem PH.minus_mono {g g' f : PH} (h : g.le g') : (g.minus f).le (g'.minus f) := fun i o k => minus_some.2 ⟨(minus_some.1 k).1, h i o (minus_some.1 k).2⟩
theorem PH.none_of_le {f g : PH} (h : f.le g) {i : Nat} (k : g i = none) : f i = none := by
  cases e : f i with
  | none => rfl
  | some o => rw [h i o e] at k; cases k

def Sat : PH → List Chunk → Prop
  | _, [] => True
  | g, A :: R => ∃ f, A f ∧ f.le g ∧ Sat (g.minus f) R

theorem Sat.mono : ∀ {L : List Chunk} {g g' : PH}, g.le g' → Sat g L → Sat g' L
  | [], _, _, _, _ => trivial
  | _ :: _, _, _, h, ⟨f, a, l, k⟩ => ⟨f, a, l.trans h, Sat.mono (PH.minus_mono h) k⟩

theorem Sat.swap {A B : Chunk} {R : List Chunk} {g : PH} : Sat g (A :: B :: R) → Sat g (B :: A :: R) := by
  rintro ⟨f1, a, l1, f2, b, l2, k⟩
  refine ⟨f2, b, l2.trans PH.minus_le, f1, a, fun i o h => PH.minus_some.2 ⟨?_, l1 i o h⟩, k.mono fun i o h => ?_⟩
  · cases e : f2 i with
    | none => rfl
    | some o' => have := (PH.minus_some.1 (l2 i o' e)).1; rw [h] at this; cases this
  · have h1 := PH.minus_some.1 h
    have h2 := PH.minus_some.1 h1.2
    exact PH.minus_some.2 ⟨h2.1, PH.minus_some.2 ⟨h1.1, h2.2⟩⟩

theorem Sat.perm {L L' : List Chunk} (p : L.Perm L') : ∀ {g : PH}, Sat g L → Sat g L' := by
  induction p with
  | nil => exact fun h => h
  | cons A _ ih => rintro g ⟨f, a, l, k⟩; exact ⟨f, a, l, ih k⟩
  | swap A B R => exact Sat.swap
  | trans _ _ i1 i2 => exact fun h => i2 (i1 h)

theorem Sat.append_right : ∀ {L R : List Chunk} {g : PH}, Sat g (L ++ R) → Sat g R
  | [], _, _, h => h
  | _ :: _, _, _, ⟨_, _, _, k⟩ => (Sat.append_right k).mono PH.minus_le

/-- Some pieces as one. -/
def star (L : List Chunk) : Chunk := fun f => Sat f L
def ex {α : Type} (A : α → Chunk) : Chunk := fun f => ∃ x, A x f
def pur (p : Prop) (A : Chunk) : Chunk := fun f => p ∧ A f
def cell (i : Nat) (o : AObj) : Chunk := fun f => f i = some o
def emp : Chunk := fun _ => True

theorem Sat.of_star : ∀ {L R : List Chunk} {f g : PH}, Sat f L → f.le g → Sat (g.minus f) R → Sat g (L ++ R)
  | [], R, f, g, _, _, k => k.mono PH.minus_le
  | A :: L, R, f, g, ⟨f1, a, l1, k1⟩, l, k => by
    refine ⟨f1, a, l1.trans l, Sat.of_star k1 (PH.minus_mono l) (k.mono fun i o h => ?_)⟩
    have h1 := PH.minus_some.1 h
    have h2 := PH.none_of_le l1 h1.1
    exact PH.minus_some.2 ⟨PH.none_of_le PH.minus_le h1.1, PH.minus_some.2 ⟨h2, h1.2⟩⟩

theorem Sat.to_star : ∀ {L R : List Chunk} {g : PH}, Sat g (L ++ R) → ∃ f, Sat f L ∧ f.le g ∧ Sat (g.minus f) R
  | [], R, g, h => ⟨fun _ => none, trivial, (fun i o h => by cases h), h.mono fun i o k => PH.minus_some.2 ⟨rfl, k⟩⟩
  | A :: L, R, g, ⟨f1, a, l1, k⟩ => by
    obtain ⟨f2, s2, l2, k2⟩ := Sat.to_star k
    refine ⟨fun i => (f1 i).or (f2 i), ⟨f1, a, fun i o h => by simp [h], s2.mono fun i o h => ?_⟩, fun i o h => ?_, k2.mono fun i o h => ?_⟩
    · have := (PH.minus_some.1 (l2 i o h)).1
      exact PH.minus_some.2 ⟨this, by simp [this, h]⟩
    · simp only [Option.or_eq_some_iff] at h
      rcases h with h | ⟨_, h⟩
      · exact l1 i o h
      · exact (PH.minus_some.1 (l2 i o h)).2
    · have h1 := PH.minus_some.1 h
      have h2 := PH.minus_some.1 h1.2
      exact PH.minus_some.2 ⟨by simp [h1.1, h2.1], h2.2⟩

/-- What was there when the statement was called. -/
structure Old where
  base : Nat
  obj : PH

def upper (h : AHeap) : PH := fun i => if i < h.base then none else h.obj i

theorem upper_some {h : AHeap} {i : Nat} {o : AObj} : upper h i = some o ↔ h.base ≤ i ∧ h.obj i = some o := by
  unfold upper
  split <;> simp <;> omega

structure Own (O : Old) (h : AHeap) (L : List Chunk) : Prop where
  base : h.base = O.base
  ble : h.base ≤ h.next
  bnd : ∀ i, h.next ≤ i → h.obj i = none
  old : ∀ i, i < O.base → h.obj i = O.obj i
  sat : Sat (upper h) L

section
variable {O : Old} {h : AHeap} {A B : Chunk} {R L L' : List Chunk}

theorem Own.weaken (k : Own O h L) (w : Sat (upper h) L → Sat (upper h) L') : Own O h L' := ⟨k.base, k.ble, k.bnd, k.old, w k.sat⟩
theorem Own.perm (p : L.Perm L') (k : Own O h L) : Own O h L' := k.weaken fun s => s.perm p
theorem Own.tail (k : Own O h (A :: R)) : Own O h R := k.weaken fun ⟨_, _, _, s⟩ => s.mono PH.minus_le
theorem Own.rest (k : Own O h (L ++ R)) : Own O h R := k.weaken Sat.append_right
theorem Own.imp {A' : Chunk} (i : ∀ f, A f → A' f) (k : Own O h (A :: R)) : Own O h (A' :: R) := k.weaken fun ⟨f, a, l, s⟩ => ⟨f, i f a, l, s⟩

theorem perm_bring : ∀ {L : List Chunk} {n : Nat} {A : Chunk}, L[n]? = some A → (A :: L.eraseIdx n).Perm L
  | [], n, A, h => by simp at h
  | B :: L, 0, A, h => by simp at h; subst h; exact List.Perm.refl _
  | B :: L, n + 1, A, h => by
    simp only [List.getElem?_cons_succ] at h
    exact (List.Perm.swap B A _).trans ((perm_bring h).cons B)

/-- The n-th piece to the head. -/
theorem Own.bring {L2 : List Chunk} (n : Nat) (e : L[n]? = some A) (e2 : L.eraseIdx n = L2) (k : Own O h L) : Own O h (A :: L2) := by
  subst e2
  exact k.perm (perm_bring e).symm

/-- The n-th piece is let go. -/
theorem Own.drop {L2 : List Chunk} (n : Nat) (e : L[n]? = some A) (e2 : L.eraseIdx n = L2) (k : Own O h L) : Own O h L2 := (k.bring n e e2).tail

theorem Own.ex_iff {α : Type} {A : α → Chunk} : Own O h (ex A :: R) ↔ ∃ x, Own O h (A x :: R) :=
  ⟨fun ⟨a, b, c, d, f, ⟨x, hx⟩, l, s⟩ => ⟨x, a, b, c, d, f, hx, l, s⟩, fun ⟨x, a, b, c, d, f, hx, l, s⟩ => ⟨a, b, c, d, f, ⟨x, hx⟩, l, s⟩⟩
theorem Own.pur_iff {p : Prop} : Own O h (pur p A :: R) ↔ p ∧ Own O h (A :: R) :=
  ⟨fun ⟨a, b, c, d, f, ⟨hp, hx⟩, l, s⟩ => ⟨hp, a, b, c, d, f, hx, l, s⟩, fun ⟨hp, a, b, c, d, f, hx, l, s⟩ => ⟨a, b, c, d, f, ⟨hp, hx⟩, l, s⟩⟩
theorem Own.star_iff : Own O h (star L :: R) ↔ Own O h (L ++ R) :=
  ⟨fun ⟨a, b, c, d, f, hf, l, s⟩ => ⟨a, b, c, d, Sat.of_star hf l s⟩, fun ⟨a, b, c, d, s⟩ => ⟨a, b, c, d, Sat.to_star s⟩⟩
theorem Own.addEmp (k : Own O h R) : Own O h (emp :: R) := k.weaken fun s => ⟨fun _ => none, trivial, (fun i o h => by cases h), s.mono fun i o k => PH.minus_some.2 ⟨rfl, k⟩⟩

theorem Own.atc {i : Nat} {o : AObj} (k : Own O h (cell i o :: R)) : h.obj i = some o ∧ O.base ≤ i ∧ i < h.next := by
  obtain ⟨f, a, l, _⟩ := k.sat
  have := upper_some.1 (l i o a)
  refine ⟨this.2, k.base ▸ this.1, ?_⟩
  rcases Nat.lt_or_ge i h.next with h1 | h1
  · exact h1
  · rw [k.bnd i h1] at this; cases this.2

theorem Own.obj {i : Nat} {o : AObj} (k : Own O h (Ab.cell i o :: R)) : h.obj i = some o := k.atc.1

/-- Something new. -/
theorem Own.push (o : AObj) (k : Own O h R) : Own O (h.push o) (Ab.cell h.next o :: R) := by
  refine ⟨k.base, Nat.le_succ_of_le k.ble, fun i hi => ?_, fun i hi => ?_, PH.one h.next o, by simp [Ab.cell, PH.one], fun i o' h' => ?_, k.sat.mono fun i o' h' => ?_⟩
  · rw [push_next] at hi; rw [push_ne _ _ _ (by omega)]; exact k.bnd i (by omega)
  · have := k.base; have := k.ble; rw [push_ne _ _ _ (by omega)]; exact k.old i hi
  · simp only [PH.one] at h'
    split at h'
    · rename_i e; subst e; obtain rfl := Option.some.inj h'; exact upper_some.2 ⟨k.ble, push_self _ _⟩
    · cases h'
  · have h1 := upper_some.1 h'
    have hne : i ≠ h.next := by rintro rfl; rw [k.bnd _ (Nat.le_refl _)] at h1; cases h1.2
    exact PH.minus_some.2 ⟨by simp [PH.one, hne], upper_some.2 ⟨h1.1, by rw [push_ne _ _ _ hne]; exact h1.2⟩⟩

/-- A piece that turns. -/
theorem Own.set {i : Nat} {o : AObj} (o' : AObj) (k : Own O h (Ab.cell i o :: R)) : Own O (h.set i o') (Ab.cell i o' :: R) := by
  obtain ⟨c1, c2, c3⟩ := k.atc
  obtain ⟨f, a, l, s⟩ := k.sat
  refine ⟨k.base, k.ble, fun j hj => ?_, fun j hj => ?_, PH.one i o', by simp [Ab.cell, PH.one], fun j u hu => ?_, s.mono fun j u hu => ?_⟩
  · rw [set_next] at hj; rw [set_ne _ _ _ _ (by omega)]; exact k.bnd j hj
  · rw [set_ne _ _ _ _ (by omega)]; exact k.old j hj
  · simp only [PH.one] at hu
    split at hu
    · rename_i e; subst e; obtain rfl := Option.some.inj hu; exact upper_some.2 ⟨by rw [set_base, k.base]; exact c2, set_self _ _ _⟩
    · cases hu
  · obtain ⟨h1, h2⟩ := PH.minus_some.1 hu
    have hne : j ≠ i := by rintro rfl; rw [Ab.cell] at a; rw [a] at h1; cases h1
    obtain ⟨h3, h4⟩ := upper_some.1 h2
    exact PH.minus_some.2 ⟨by simp [PH.one, hne], upper_some.2 ⟨h3, by rw [set_ne _ _ _ _ hne]; exact h4⟩⟩

theorem Own.kill {i : Nat} {o : AObj} (k : Own O h (Ab.cell i o :: R)) : Own O (h.kill i) R := by
  obtain ⟨c1, c2, c3⟩ := k.atc
  obtain ⟨f, a, l, s⟩ := k.sat
  refine ⟨k.base, k.ble, fun j hj => ?_, fun j hj => ?_, s.mono fun j u hu => ?_⟩
  · rw [kill_next] at hj; rw [kill_ne _ _ _ (by omega)]; exact k.bnd j hj
  · rw [kill_ne _ _ _ (by omega)]; exact k.old j hj
  · obtain ⟨h1, h2⟩ := PH.minus_some.1 hu
    have hne : j ≠ i := by rintro rfl; rw [Ab.cell] at a; rw [a] at h1; cases h1
    obtain ⟨h3, h4⟩ := upper_some.1 h2
    exact upper_some.2 ⟨h3, by rw [kill_ne _ _ _ hne]; exact h4⟩

/-- What does nothing but make something new. -/
theorem Own.ext {h' : AHeap} (k : Own O h R) (x : Ext h h') (bnd : ∀ i, h'.next ≤ i → h'.obj i = none) : Own O h' R := by
  refine ⟨x.base.trans k.base, by rw [x.base]; exact Nat.le_trans k.ble x.next, bnd, fun i hi => ?_, k.sat.mono fun i o hi => ?_⟩
  · have := k.base; have := k.ble
    rw [x.old i (by omega)]; exact k.old i hi
  · obtain ⟨h1, h2⟩ := upper_some.1 hi
    have : i < h.next := by
      rcases Nat.lt_or_ge i h.next with h3 | h3
      · exact h3
      · rw [k.bnd i h3] at h2; cases h2
    exact upper_some.2 ⟨by rw [x.base]; exact h1, by rw [x.old i this]; exact h2⟩
end

section
variable {O : Old} {h : AHeap} {R : List Chunk}
theorem Own.b1 {X0 X1 : Chunk} (k : Own O h (X0 :: X1 :: R)) : Own O h (X1 :: X0 :: R) := k.bring 1 rfl rfl
theorem Own.b2 {X0 X1 X2 : Chunk} (k : Own O h (X0 :: X1 :: X2 :: R)) : Own O h (X2 :: X0 :: X1 :: R) := k.bring 2 rfl rfl
theorem Own.p2 {X0 X1 X2 : Chunk} (k : Own O h (X0 :: X1 :: X2 :: R)) : Own O h (X1 :: X2 :: X0 :: R) := k.perm ((perm_bring (L := X1 :: X2 :: X0 :: R) (n := 2) rfl))
theorem Own.b3 {X0 X1 X2 X3 : Chunk} (k : Own O h (X0 :: X1 :: X2 :: X3 :: R)) : Own O h (X3 :: X0 :: X1 :: X2 :: R) := k.bring 3 rfl rfl
theorem Own.p3 {X0 X1 X2 X3 : Chunk} (k : Own O h (X0 :: X1 :: X2 :: X3 :: R)) : Own O h (X1 :: X2 :: X3 :: X0 :: R) := k.perm ((perm_bring (L := X1 :: X2 :: X3 :: X0 :: R) (n := 3) rfl))
theorem Own.b4 {X0 X1 X2 X3 X4 : Chunk} (k : Own O h (X0 :: X1 :: X2 :: X3 :: X4 :: R)) : Own O h (X4 :: X0 :: X1 :: X2 :: X3 :: R) := k.bring 4 rfl rfl
theorem Own.p4 {X0 X1 X2 X3 X4 : Chunk} (k : Own O h (X0 :: X1 :: X2 :: X3 :: X4 :: R)) : Own O h (X1 :: X2 :: X3 :: X4 :: X0 :: R) := k.perm ((perm_bring (L := X1 :: X2 :: X3 :: X4 :: X0 :: R) (n := 4) rfl))
theorem Own.b5 {X0 X1 X2 X3 X4 X5 : Chunk} (k : Own O h (X0 :: X1 :: X2 :: X3 :: X4 :: X5 :: R)) : Own O h (X5 :: X0 :: X1 :: X2 :: X3 :: X4 :: R) := k.bring 5 rfl rfl
theorem Own.p5 {X0 X1 X2 X3 X4 X5 : Chunk} (k : Own O h (X0 :: X1 :: X2 :: X3 :: X4 :: X5 :: R)) : Own O h (X1 :: X2 :: X3 :: X4 :: X5 :: X0 :: R) := k.perm ((perm_bring (L := X1 :: X2 :: X3 :: X4 :: X5 :: X0 :: R) (n := 5) rfl))
theorem Own.b6 {X0 X1 X2 X3 X4 X5 X6 : Chunk} (k : Own O h (X0 :: X1 :: X2 :: X3 :: X4 :: X5 :: X6 :: R)) : Own O h (X6 :: X0 :: X1 :: X2 :: X3 :: X4 :: X5 :: R) := k.bring 6 rfl rfl
theorem Own.p6 {X0 X1 X2 X3 X4 X5 X6 : Chunk} (k : Own O h (X0 :: X1 :: X2 :: X3 :: X4 :: X5 :: X6 :: R)) : Own O h (X1 :: X2 :: X3 :: X4 :: X5 :: X6 :: X0 :: R) := k.perm ((perm_bring (L := X1 :: X2 :: X3 :: X4 :: X5 :: X6 :: X0 :: R) (n := 6) rfl))
theorem Own.b7 {X0 X1 X2 X3 X4 X5 X6 X7 : Chunk} (k : Own O h (X0 :: X1 :: X2 :: X3 :: X4 :: X5 :: X6 :: X7 :: R)) : Own O h (X7 :: X0 :: X1 :: X2 :: X3 :: X4 :: X5 :: X6 :: R) := k.bring 7 rfl rfl
theorem Own.p7 {X0 X1 X2 X3 X4 X5 X6 X7 : Chunk} (k : Own O h (X0 :: X1 :: X2 :: X3 :: X4 :: X5 :: X6 :: X7 :: R)) : Own O h (X1 :: X2 :: X3 :: X4 :: X5 :: X6 :: X7 :: X0 :: R) := k.perm ((perm_bring (L := X1 :: X2 :: X3 :: X4 :: X5 :: X6 :: X7 :: X0 :: R) (n := 7) rfl))
theorem Own.b8 {X0 X1 X2 X3 X4 X5 X6 X7 X8 : Chunk} (k : Own O h (X0 :: X1 :: X2 :: X3 :: X4 :: X5 :: X6 :: X7 :: X8 :: R)) : Own O h (X8 :: X0 :: X1 :: X2 :: X3 :: X4 :: X5 :: X6 :: X7 :: R) := k.bring 8 rfl rfl
theorem Own.p8 {X0 X1 X2 X3 X4 X5 X6 X7 X8 : Chunk} (k : Own O h (X0 :: X1 :: X2 :: X3 :: X4 :: X5 :: X6 :: X7 :: X8 :: R)) : Own O h (X1 :: X2 :: X3 :: X4 :: X5 :: X6 :: X7 :: X8 :: X0 :: R) := k.perm ((perm_bring (L := X1 :: X2 :: X3 :: X4 :: X5 :: X6 :: X7 :: X8 :: X0 :: R) (n := 8) rfl))
theorem Own.d1 {X0 X1 : Chunk} (k : Own O h (X0 :: X1 :: R)) : Own O h (X0 :: R) := k.drop 1 rfl rfl
theorem Own.d2 {X0 X1 X2 : Chunk} (k : Own O h (X0 :: X1 :: X2 :: R)) : Own O h (X0 :: X1 :: R) := k.drop 2 rfl rfl
theorem Own.d3 {X0 X1 X2 X3 : Chunk} (k : Own O h (X0 :: X1 :: X2 :: X3 :: R)) : Own O h (X0 :: X1 :: X2 :: R) := k.drop 3 rfl rfl
theorem Own.d4 {X0 X1 X2 X3 X4 : Chunk} (k : Own O h (X0 :: X1 :: X2 :: X3 :: X4 :: R)) : Own O h (X0 :: X1 :: X2 :: X3 :: R) := k.drop 4 rfl rfl
theorem Own.d5 {X0 X1 X2 X3 X4 X5 : Chunk} (k : Own O h (X0 :: X1 :: X2 :: X3 :: X4 :: X5 :: R)) : Own O h (X0 :: X1 :: X2 :: X3 :: X4 :: R) := k.drop 5 rfl rfl
theorem Own.d6 {X0 X1 X2 X3 X4 X5 X6 : Chunk} (k : Own O h (X0 :: X1 :: X2 :: X3 :: X4 :: X5 :: X6 :: R)) : Own O h (X0 :: X1 :: X2 :: X3 :: X4 :: X5 :: R) := k.drop 6 rfl rfl
theorem Own.d7 {X0 X1 X2 X3 X4 X5 X6 X7 : Chunk} (k : Own O h (X0 :: X1 :: X2 :: X3 :: X4 :: X5 :: X6 :: X7 :: R)) : Own O h (X0 :: X1 :: X2 :: X3 :: X4 :: X5 :: X6 :: R) := k.drop 7 rfl rfl
end

/-! ### Slices that are one's own -/
/-- A slice of n elements, whose cells are cs, that may be written. -/
def os (e : TypeId) (sz : Nat) (v : Value) (n : Nat) (cs : List Value) : Chunk := fun f =>
  (v = .slice none 0 0 ∧ n = 0 ∧ cs = []) ∨ ∃ i off cap c ti, v = .slice (some ⟨i, off, none⟩) n cap ∧ n ≤ cap ∧ f i = some (.row c e sz ti false) ∧ off + cap * sz ≤ c.length ∧ (c.drop off).take (n * sz) = cs

/-- Bytes that are one's own. -/
abbrev ob (e : TypeId) (v : Value) (bs : List UInt8) : Chunk := os e 1 v bs.length (bs.map B)

section
variable {O : Old} {h : AHeap} {R : List Chunk} {e : TypeId} {sz n : Nat} {v : Value} {cs : List Value} {bs : List UInt8}

theorem os_nil (e : TypeId) (sz : Nat) (f : PH) : os e sz (.slice none 0 0) 0 [] f := .inl ⟨rfl, rfl, rfl⟩

theorem Own.nil (e : TypeId) (sz : Nat) (k : Own O h R) : Own O h (os e sz (.slice none 0 0) 0 [] :: R) := k.addEmp.imp fun f _ => os_nil e sz f

/-- Either nothing, or a row. -/
theorem Own.os_cases (k : Own O h (os e sz v n cs :: R)) : (v = .slice none 0 0 ∧ n = 0 ∧ cs = [] ∧ Own O h R) ∨
    ∃ i off cap c ti, v = .slice (some ⟨i, off, none⟩) n cap ∧ n ≤ cap ∧ off + cap * sz ≤ c.length ∧ (c.drop off).take (n * sz) = cs ∧ Own O h (cell i (.row c e sz ti false) :: R) := by
  obtain ⟨a, b, c, d, f, hf, l, s⟩ := k
  rcases hf with ⟨rfl, rfl, rfl⟩ | ⟨i, off, cap, c', ti, rfl, h1, h2, h3, h4⟩
  · exact .inl ⟨rfl, rfl, rfl, a, b, c, d, s.mono PH.minus_le⟩
  · exact .inr ⟨i, off, cap, c', ti, rfl, h1, h3, h4, a, b, c, d, f, h2, l, s⟩

theorem Own.os_mk {i off cap : Nat} {c : List Value} {ti : Bool} (k : Own O h (cell i (.row c e sz ti false) :: R)) (h1 : n ≤ cap) (h2 : off + cap * sz ≤ c.length) (h3 : (c.drop off).take (n * sz) = cs) :
    Own O h (os e sz (.slice (some ⟨i, off, none⟩) n cap) n cs :: R) := k.imp fun f hf => .inr ⟨i, off, cap, c, ti, rfl, h1, hf, h2, h3⟩

theorem Own.os_sl (k : Own O h (os e sz v n cs :: R)) : Sl sz h v n cs := by
  rcases k.os_cases with ⟨rfl, rfl, rfl, _⟩ | ⟨i, off, cap, c, ti, rfl, h1, h2, h3, k2⟩
  · exact .inl ⟨rfl, rfl, rfl⟩
  · have := Nat.mul_le_mul_right sz h1
    exact .inr ⟨i, off, cap, c, e, sz, ti, false, rfl, h1, k2.atc.2.2, k2.obj, .inr rfl, by omega, h3⟩

theorem Own.ob_bytes (k : Own O h (ob e v bs :: R)) : Bytes h v bs := by
  rcases k.os_cases with ⟨rfl, h1, _⟩ | ⟨i, off, cap, c, ti, rfl, h1, h2, h3, k2⟩
  · exact .inl ⟨rfl, by simpa using h1⟩
  · exact .inr ⟨i, off, cap, c, e, 1, ti, false, rfl, h1, k2.atc.2.2, k2.obj, .inr rfl, by omega, by rw [Nat.mul_one] at h3; exact h3⟩

theorem setL_drop_take (l c : List Value) (a b : Nat) (hb : b + l.length ≤ c.length) (ha : a ≤ b) : ((setL c b l).drop a).take (b - a + l.length) = (c.drop a).take (b - a) ++ l := by
  induction l generalizing c b with
  | nil => simp [setL]
  | cons x l ih =>
    simp only [List.length_cons] at hb
    have e1 : b - a + (x :: l).length = (b + 1) - a + l.length := by simp; omega
    rw [setL, e1, ih (c.set b x) (b + 1) (by simp; omega) (by omega)]
    have e2 : b + 1 - a = (b - a) + 1 := by omega
    rw [e2]
    have hlt : b - a < ((c.set b x).drop a).length := by simp; omega
    rw [List.take_succ_eq_append_getElem hlt, List.append_assoc]
    congr 1
    · apply List.ext_getElem?
      intro j
      simp only [List.getElem?_take, List.getElem?_drop]
      split
      · rw [List.getElem?_set_ne (by omega)]
      · rfl
    · simp only [List.getElem_drop, show a + (b - a) = b by omega]
      simp

/-- What is put behind. -/
theorem Own.app {P : Program} {t xt : TypeId} {by_ m : Nat} {z xv : Value} {xs : List Value} (ht : P.underlying t = some (.slice e)) (hs : tsz P e = some sz) (hb : tby P e = some by_) (hz : tzero P e = some z)
    (hn : noInt P xt = true) (h0 : 0 < sz) (h1 : 0 < by_) (h2 : z.cells.size = sz) (k : Own O h (os e sz v n cs :: R)) (hx : srcCells h sz xv = some (m, xs)) (hl : xs.length = m * sz) (hok : xs.all okCell = true) (hc : (n + m) * by_ ≤ 140737488355328) :
    ∃ v' h', appendW P h t xt v xv = some (v', h') ∧ Own O h' (os e sz v' (n + m) (cs ++ xs) :: R) := by
  have hcond : noInt P xt = true ∧ 0 < sz ∧ 0 < by_ ∧ z.cells.size = sz ∧ xs.all okCell = true := ⟨hn, h0, h1, h2, hok⟩
  rcases k.os_cases with ⟨rfl, rfl, rfl, k2⟩ | ⟨i, off, cap, c, ti, rfl, q1, q2, rfl, k2⟩
  · simp only [appendW, ht, hs, hb, hz, hx]
    rw [if_pos hcond]
    by_cases hm : m = 0
    · subst hm
      obtain rfl : xs = [] := by rw [← List.length_eq_zero_iff]; omega
      rw [if_pos rfl]
      exact ⟨_, _, rfl, k2.nil _ _⟩
    · rw [if_neg hm, if_pos (by simpa using hc)]
      refine ⟨_, _, rfl, ?_⟩
      have := (k2.push (.row xs e sz false false)).os_mk (n := m) (cap := m) (off := 0) (cs := xs) (Nat.le_refl _) (by omega) (by simp [← hl])
      simpa using this
  · simp only [appendW, ht, hs, hb, hz, hx]
    rw [if_pos hcond]
    by_cases hm : m = 0
    · subst hm
      obtain rfl : xs = [] := by rw [← List.length_eq_zero_iff]; omega
      rw [if_pos rfl]
      exact ⟨_, _, rfl, by simpa using k⟩
    · have qm := Nat.mul_le_mul_right sz q1
      rw [if_neg hm, k2.obj]
      simp only []
      rw [if_pos ⟨trivial, by omega⟩]
      have hlen : ((c.drop off).take (n * sz)).length = n * sz := by simp; omega
      have hmul : (n + m) * sz = n * sz + m * sz := Nat.add_mul _ _ _
      by_cases hr : n + m ≤ cap
      · have qm2 := Nat.mul_le_mul_right sz hr
        rw [if_pos hr, if_pos ⟨trivial, by omega⟩]
        refine ⟨_, _, rfl, (k2.set _).os_mk hr (by rw [setL_length]; exact q2) ?_⟩
        have := setL_drop_take xs c off (off + n * sz) (by omega) (by omega)
        rw [show off + n * sz - off = n * sz by omega, hl, ← hmul] at this
        exact this
      · rw [if_neg hr, if_pos hc]
        have fin : ∀ {h2 : AHeap}, Own O h2 R → Own O (h2.push (.row ((c.drop off).take (n * sz) ++ xs) e sz false false)) (os e sz (.slice (some ⟨h2.next, 0, none⟩) (n + m) (n + m)) (n + m) ((c.drop off).take (n * sz) ++ xs) :: R) := fun k3 =>
          (k3.push _).os_mk (Nat.le_refl _) (by simp only [List.length_append, hlen, hl]; omega) (by rw [List.drop_zero, List.take_of_length_le (by simp only [List.length_append, hlen, hl]; omega)])
        by_cases hti : ti = true
        · rw [if_pos hti]
          exact ⟨_, _, rfl, fin k2.tail⟩
        · rw [if_neg hti, if_pos ⟨trivial, by rw [k.base]; exact k2.atc.2.1, trivial⟩]
          have := fin k2.kill
          rw [kill_next] at this
          exact ⟨_, _, rfl, this⟩

theorem Own.appB {P : Program} {t xt : TypeId} {xv : Value} {xs : List UInt8} (ht : P.underlying t = some (.slice e)) (hs : tsz P e = some 1) (hb : tby P e = some 1) (hz : tzero P e = some (.int .u8 0))
    (hn : noInt P xt = true) (k : Own O h (ob e v bs :: R)) (hx : srcCells h 1 xv = some (xs.length, xs.map B)) (hc : bs.length + xs.length ≤ 140737488355328) :
    ∃ a cap h', appendW P h t xt v xv = some (.slice a (bs.length + xs.length) cap, h') ∧ Own O h' (ob e (.slice a (bs.length + xs.length) cap) (bs ++ xs) :: R) := by
  obtain ⟨v', h', e1, k2⟩ := Own.app ht hs hb hz hn (by omega) (by omega) (by rfl) k hx (by simp) (all_okCell_B xs) (by omega)
  obtain ⟨a, cap, rfl⟩ := k2.os_sl.val
  exact ⟨a, cap, h', e1, by simpa [ob] using k2⟩

/-- A piece of a slice that is one's own. -/
theorem Own.os_slice {P : Program} {t : TypeId} (ht : P.underlying t = some (.slice e)) (hs : tsz P e = some sz) {lo hi : Nat} (h1 : lo ≤ hi) (h2 : hi ≤ n)
    {l u : Option Value} (hl : (l = none ∧ lo = 0) ∨ ∃ kd, l = some (.int kd lo)) (hu : (u = none ∧ hi = n) ∨ ∃ kd, u = some (.int kd hi)) (k : Own O h (os e sz v n cs :: R)) :
    ∃ v', sliceR P h t v l u none = some v' ∧ Own O h (os e sz v' (hi - lo) ((cs.drop (lo * sz)).take ((hi - lo) * sz)) :: R) := by
  rcases k.os_cases with ⟨rfl, rfl, rfl, k2⟩ | ⟨i, off, cap, c, ti, rfl, q1, q2, rfl, k2⟩
  · obtain rfl : hi = 0 := by omega
    obtain rfl : lo = 0 := by omega
    refine ⟨.slice none 0 0, ?_, by simpa using k2.nil e sz⟩
    rcases hl with ⟨rfl, _⟩ | ⟨kd, rfl⟩ <;> rcases hu with ⟨rfl, _⟩ | ⟨kd', rfl⟩ <;> simp [sliceR, ht, hs, bnds, sb]
  · have hb : bnds n cap l u none = some (lo, hi, cap) := by
      have hc : hi ≤ cap := by omega
      rcases hl with ⟨rfl, hl⟩ | ⟨kd, rfl⟩ <;> rcases hu with ⟨rfl, hu⟩ | ⟨kd', rfl⟩ <;> first
        | (simp [bnds, sb, hc, h1]; done)
        | (simp [bnds, sb, hc, h1]; omega)
        | (subst hu; simp [bnds, sb, h1]; done)
        | (subst hu; simp [bnds, sb, h1]; omega)
    refine ⟨_, by simp only [sliceR, ht, hs, k2.obj, hb]; rw [if_pos (by simp)], ?_⟩
    have e1 : ∀ x, x ≤ n → ((c.drop off).take (n * sz)).take (x * sz) = (c.drop off).take (x * sz) := fun x hx => by
      rw [List.take_take, Nat.min_eq_left (Nat.mul_le_mul_right _ hx)]
    have e2 : ((((c.drop off).take (n * sz)).drop (lo * sz)).take ((hi - lo) * sz)) = (c.drop (off + lo * sz)).take ((hi - lo) * sz) := by
      have := Nat.mul_le_mul_right sz h2
      rw [List.drop_take, List.drop_drop, List.take_take, Nat.min_eq_left]
      rw [← Nat.sub_mul]; exact Nat.mul_le_mul_right _ (by omega)
    rw [e2]
    split
    · have h0 : hi - lo = 0 := by omega
      rw [h0]
      exact k2.os_mk (Nat.le_refl _) (by omega) (by simp)
    · have hm : lo * sz + (cap - lo) * sz = cap * sz := by rw [← Nat.add_mul]; congr 1; omega
      exact k2.os_mk (by omega) (by omega) rfl

theorem Own.ob_slice {P : Program} {t : TypeId} (ht : P.underlying t = some (.slice e)) (hs : tsz P e = some 1) {lo hi : Nat} (h1 : lo ≤ hi) (h2 : hi ≤ bs.length)
    {l u : Option Value} (hl : (l = none ∧ lo = 0) ∨ ∃ kd, l = some (.int kd lo)) (hu : (u = none ∧ hi = bs.length) ∨ ∃ kd, u = some (.int kd hi)) (k : Own O h (ob e v bs :: R)) :
    ∃ v', sliceR P h t v l u none = some v' ∧ Own O h (ob e v' ((bs.take hi).drop lo) :: R) := by
  obtain ⟨v', e1, k2⟩ := k.os_slice ht hs h1 h2 hl hu
  refine ⟨v', e1, ?_⟩
  have e2 : ((bs.take hi).drop lo).length = hi - lo := by simp; omega
  have e3 : (((bs.map B).drop (lo * 1)).take ((hi - lo) * 1)) = ((bs.take hi).drop lo).map B := by
    rw [Nat.mul_one, Nat.mul_one, ← List.map_drop, ← List.map_take, List.drop_take]
  rw [e3] at k2
  unfold ob; rw [e2]; exact k2

/-- New bytes, as they lie from a number on. -/
theorem Own.of_obytes {h' : AHeap} (k : Own O h R) (x : Ext h h') (bnd : ∀ i, h'.next ≤ i → h'.obj i = none) (b : GS e sz h.next h' v n cs) : Own O h' (os e sz v n cs :: R) := by
  have k2 := k.ext x bnd
  rcases b with ⟨rfl, rfl, rfl⟩ | ⟨i, off, c, ti, rfl, h1, h2, h3, h4, h5⟩
  · exact k2.nil _ _
  · have hb := k.ble
    refine ⟨k2.base, k2.ble, k2.bnd, k2.old, PH.one i (.row c e sz ti false), .inr ⟨i, off, n, c, ti, rfl, Nat.le_refl _, by simp [PH.one], h4, h5⟩, fun j o hj => ?_, k.sat.mono fun j o hj => ?_⟩
    · simp only [PH.one] at hj
      split at hj
      · rename_i ej; subst ej; obtain rfl := Option.some.inj hj; exact upper_some.2 ⟨by rw [x.base]; omega, h3⟩
      · cases hj
    · obtain ⟨q1, q2⟩ := upper_some.1 hj
      have : j < h.next := by
        rcases Nat.lt_or_ge j h.next with h3 | h3
        · exact h3
        · rw [k.bnd j h3] at q2; cases q2
      refine PH.minus_some.2 ⟨by simp [PH.one]; omega, upper_some.2 ⟨by rw [x.base]; exact q1, by rw [x.old j this]; exact q2⟩⟩
end

/-- What was there at the call is there. -/
structure OldIn (O : Old) (h : AHeap) : Prop where
  base : O.base ≤ h.next
  old : ∀ i, i < O.base → h.obj i = O.obj i

theorem Own.oldIn {O : Old} {h : AHeap} {L : List Chunk} (k : Own O h L) : OldIn O h := ⟨k.base ▸ k.ble, k.old⟩

def AHeap.asOld (h : AHeap) : Old := ⟨h.base, h.obj⟩

theorem Own.start (h : AHeap) (hb : h.base ≤ h.next) (hn : ∀ i, h.next ≤ i → h.obj i = none) : Own h.asOld h [] := ⟨rfl, hb, hn, fun _ _ => rfl, trivial⟩
end Ab
