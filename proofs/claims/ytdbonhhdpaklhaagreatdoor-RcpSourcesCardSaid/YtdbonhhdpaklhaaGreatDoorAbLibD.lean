import Derived.Test.YtdbonhhdpaklhaaGreatDoorAbLibC
section
namespace Ab
open Go
set_option autoImplicit false
set_option linter.unusedVariables false
set_option linter.unusedSimpArgs false

/-! ### Pieces of the heap that are one's own, side by side -/
abbrev PH := Nat → Option AObj
abbrev Chunk := PH → Prop

def PH.le (f g : PH) : Prop := ∀ i o, f i = some o → g i = some o
def PH.minus (g f : PH) : PH := fun i => if (f i).isSome then none else g i
def PH.one (i : Nat) (o : AObj) : PH := fun j => if j = i then some o else none

theorem PH.le.rfl {f : PH} : f.le f := fun _ _ h => h
theorem PH.le.trans {f g k : PH} (h : f.le g) (h' : g.le k) : f.le k := fun i o e => h' i o (h i o e)
theorem PH.minus_some {g f : PH} {i : Nat} {o : AObj} : g.minus f i = some o ↔ f i = none ∧ g i = some o := by
  unfold PH.minus
  cases f i <;> simp
theorem PH.minus_le {g f : PH} : (g.minus f).le g := fun i o h => (minus_some.1 h).2
theorem PH.minus_mono {g g' f : PH} (h : g.le g') : (g.minus f).le (g'.minus f) := fun i o k => minus_some.2 ⟨(minus_some.1 k).1, h i o (minus_some.1 k).2⟩
theorem PH.none_of_le {f g : PH} (h : f.le g) {i : Nat} (k : g i = none) : f i = none := by
  cases e : f i with
  | none => rfl
  | some o => rw [h i o e] at k; cases k

def Sat : PH → List Chunk → Prop
  | _, [] => True
  | g, A :: R => ∃ f, A f ∧ f.le g ∧ Sat (g.minus f) R

theorem Sat.mono : ∀ {L : List Chunk} {g g' : PH}, g.le g' → Sat g L → Sat g' L
  | [], _, _, _, _ => trivial
  | _ :: _, _, _, h, ⟨f, a, l, k⟩ => ⟨f, a, l.trans h, Sat.mono (PH.minus_mono h) k⟩

theorem Sat.swap {A B : Chunk} {R : List Chunk} {g : PH} : Sat g (A :: B :: R) → Sat g (B :: A :: R) := by
  rintro ⟨f1, a, l1, f2, b, l2, k⟩
  refine ⟨f2, b, l2.trans PH.minus_le, f1, a, fun i o h => PH.minus_some.2 ⟨?_, l1 i o h⟩, k.mono fun i o h => ?_⟩
  · cases e : f2 i with
    | none => rfl
    | some o' => have := (PH.minus_some.1 (l2 i o' e)).1; rw [h] at this; cases this
  · have h1 := PH.minus_some.1 h
    have h2 := PH.minus_some.1 h1.2
    exact PH.minus_some.2 ⟨h2.1, PH.minus_some.2 ⟨h1.1, h2.2⟩⟩

theorem Sat.perm {L L' : List Chunk} (p : L.Perm L') : ∀ {g : PH}, Sat g L → Sat g L' := by
  induction p with
  | nil => exact fun h => h
  | cons A _ ih => rintro g ⟨f, a, l, k⟩; exact ⟨f, a, l, ih k⟩
  | swap A B R => exact Sat.swap
  | trans _ _ i1 i2 => exact fun h => i2 (i1 h)

theorem Sat.append_right : ∀ {L R : List Chunk} {g : PH}, Sat g (L ++ R) → Sat g R
  | [], _, _, h => h
  | _ :: _, _, _, ⟨_, _, _, k⟩ => (Sat.append_right k).mono PH.minus_le

/-- Some pieces as one. -/
def star (L : List Chunk) : Chunk := fun f => Sat f L
def ex {α : Type} (A : α → Chunk) : Chunk := fun f => ∃ x, A x f
def pur (p : Prop) (A : Chunk) : Chunk := fun f => p ∧ A f
def cell (i : Nat) (o : AObj) : Chunk := fun f => f i = some o
def emp : Chunk := fun _ => True

theorem Sat.of_star : ∀ {L R : List Chunk} {f g : PH}, Sat f L → f.le g → Sat (g.minus f) R → Sat g (L ++ R)
  | [], R, f, g, _, _, k => k.mono PH.minus_le
  | A :: L, R, f, g, ⟨f1, a, l1, k1⟩, l, k => by
    refine ⟨f1, a, l1.trans l, Sat.of_star k1 (PH.minus_mono l) (k.mono fun i o h => ?_)⟩
    have h1 := PH.minus_some.1 h
    have h2 := PH.none_of_le l1 h1.1
    exact PH.minus_some.2 ⟨PH.none_of_le PH.minus_le h1.1, PH.minus_some.2 ⟨h2, h1.2⟩⟩

theorem Sat.to_star : ∀ {L R : List Chunk} {g : PH}, Sat g (L ++ R) → ∃ f, Sat f L ∧ f.le g ∧ Sat (g.minus f) R
  | [], R, g, h => ⟨fun _ => none, trivial, (fun i o h => by cases h), h.mono fun i o k => PH.minus_some.2 ⟨rfl, k⟩⟩
  | A :: L, R, g, ⟨f1, a, l1, k⟩ => by
    obtain ⟨f2, s2, l2, k2⟩ := Sat.to_star k
    refine ⟨fun i => (f1 i).or (f2 i), ⟨f1, a, fun i o h => by simp [h], s2.mono fun i o h => ?_⟩, fun i o h => ?_, k2.mono fun i o h => ?_⟩
    · have := (PH.minus_some.1 (l2 i o h)).1
      exact PH.minus_some.2 ⟨this, by simp [this, h]⟩
    · simp only [Option.or_eq_some_iff] at h
      rcases h with h | ⟨_, h⟩
      · exact l1 i o h
      · exact (PH.minus_some.1 (l2 i o h)).2
    · have h1 := PH.minus_some.1 h
      have h2 := PH.minus_some.1 h1.2
      exact PH.minus_some.2 ⟨by simp [h1.1, h2.1], h2.2⟩

/-- What was there when the statement was called. -/
structure Old where
  base : Nat
  obj : PH

def upper (h : AHeap) : PH := fun i => if i < h.base then none else h.obj i

theorem upper_some {h : AHeap} {i : Nat} {o : AObj} : upper h i = some o ↔ h.base ≤ i ∧ h.obj i = some o := by
  unfold upper
  split <;> simp <;> omega

structure Own (O : Old) (h : AHeap) (L : List Chunk) : Prop where
  base : h.base = O.base
  ble : h.base ≤ h.next
  bnd : ∀ i, h.next ≤ i → h.obj i = none
  old : ∀ i, i < O.base → h.obj i = O.obj i
  sat : Sat (upper h) L

section
variable {O : Old} {h : AHeap} {A B : Chunk} {R L L' : List Chunk}

theorem Own.weaken (k : Own O h L) (w : Sat (upper h) L → Sat (upper h) L') : Own O h L' := ⟨k.base, k.ble, k.bnd, k.old, w k.sat⟩
theorem Own.perm (p : L.Perm L') (k : Own O h L) : Own O h L' := k.weaken fun s => s.perm p
theorem Own.tail (k : Own O h (A :: R)) : Own O h R := k.weaken fun ⟨_, _, _, s⟩ => s.mono PH.minus_le
theorem Own.rest (k : Own O h (L ++ R)) : Own O h R := k.weaken Sat.append_right
theorem Own.imp {A' : Chunk} (i : ∀ f, A f → A' f) (k : Own O h (A :: R)) : Own O h (A' :: R) := k.weaken fun ⟨f, a, l, s⟩ => ⟨f, i f a, l, s⟩

theorem perm_bring : ∀ {L : List Chunk} {n : Nat} {A : Chunk}, L[n]? = some A → (A :: L.eraseIdx n).Perm L
  | [], n, A, h => by simp at h
  | B :: L, 0, A, h => by simp at h; subst h; exact List.Perm.refl _
  | B :: L, n + 1, A, h => by
    simp only [List.getElem?_cons_succ] at h
    exact (List.Perm.swap B A _).trans ((perm_bring h).cons B)

/-- The n-th piece to the head. -/
theorem Own.bring {L2 : List Chunk} (n : Nat) (e : L[n]? = some A) (e2 : L.eraseIdx n = L2) (k : Own O h L) : Own O h (A :: L2) := by
  subst e2
  exact k.perm (perm_bring e).symm

/-- The n-th piece is let go. -/
theorem Own.drop {L2 : List Chunk} (n : Nat) (e : L[n]? = some A) (e2 : L.eraseIdx n = L2) (k : Own O h L) : Own O h L2 := (k.bring n e e2).tail

theorem Own.ex_iff {α : Type} {A : α → Chunk} : Own O h (ex A :: R) ↔ ∃ x, Own O h (A x :: R) :=
  ⟨fun ⟨a, b, c, d, f, ⟨x, hx⟩, l, s⟩ => ⟨x, a, b, c, d, f, hx, l, s⟩, fun ⟨x, a, b, c, d, f, hx, l, s⟩ => ⟨a, b, c, d, f, ⟨x, hx⟩, l, s⟩⟩
theorem Own.pur_iff {p : Prop} : Own O h (pur p A :: R) ↔ p ∧ Own O h (A :: R) :=
  ⟨fun ⟨a, b, c, d, f, ⟨hp, hx⟩, l, s⟩ => ⟨hp, a, b, c, d, f, hx, l, s⟩, fun ⟨hp, a, b, c, d, f, hx, l, s⟩ => ⟨a, b, c, d, f, ⟨hp, hx⟩, l, s⟩⟩
theorem Own.star_iff : Own O h (star L :: R) ↔ Own O h (L ++ R) :=
  ⟨fun ⟨a, b, c, d, f, hf, l, s⟩ => ⟨a, b, c, d, Sat.of_star hf l s⟩, fun ⟨a, b, c, d, s⟩ => ⟨a, b, c, d, Sat.to_star s⟩⟩
theorem Own.addEmp (k : Own O h R) : Own O h (emp :: R) := k.weaken fun s => ⟨fun _ => none, trivial, (fun i o h => by cases h), s.mono fun i o k => PH.minus_some.2 ⟨rfl, k⟩⟩

theorem Own.atc {i : Nat} {o : AObj} (k : Own O h (cell i o :: R)) : h.obj i = some o ∧ O.base ≤ i ∧ i < h.next := by
  obtain ⟨f, a, l, _⟩ := k.sat
  have := upper_some.1 (l i o a)
  refine ⟨this.2, k.base ▸ this.1, ?_⟩
  rcases Nat.lt_or_ge i h.next with h1 | h1
  · exact h1
  · rw [k.bnd i h1] at this; cases this.2

theorem Own.obj {i : Nat} {o : AObj} (k : Own O h (Ab.cell i o :: R)) : h.obj i = some o := k.atc.1

/-- Something new. -/
theorem Own.push (o : AObj) (k : Own O h R) : Own O (h.push o) (Ab.cell h.next o :: R) := by
  refine ⟨k.base, Nat.le_succ_of_le k.ble, fun i hi => ?_, fun i hi => ?_, PH.one h.next o, by simp [Ab.cell, PH.one], fun i o' h' => ?_, k.sat.mono fun i o' h' => ?_⟩
  · rw [push_next] at hi; rw [push_ne _ _ _ (by omega)]; exact k.bnd i (by omega)
  · have := k.base; have := k.ble; rw [push_ne _ _ _ (by omega)]; exact k.old i hi
  · simp only [PH.one] at h'
    split at h'
    · rename_i e; subst e; obtain rfl := Option.some.inj h'; exact upper_some.2 ⟨k.ble, push_self _ _⟩
    · cases h'
  · have h1 := upper_some.1 h'
    have hne : i ≠ h.next := by rintro rfl; rw [k.bnd _ (Nat.le_refl _)] at h1; cases h1.2
    exact PH.minus_some.2 ⟨by simp [PH.one, hne], upper_some.2 ⟨h1.1, by rw [push_ne _ _ _ hne]; exact h1.2⟩⟩

/-- A piece that turns. -/
theorem Own.set {i : Nat} {o : AObj} (o' : AObj) (k : Own O h (Ab.cell i o :: R)) : Own O (h.set i o') (Ab.cell i o' :: R) := by
  obtain ⟨c1, c2, c3⟩ := k.atc
  obtain ⟨f, a, l, s⟩ := k.sat
  refine ⟨k.base, k.ble, fun j hj => ?_, fun j hj => ?_, PH.one i o', by simp [Ab.cell, PH.one], fun j u hu => ?_, s.mono fun j u hu => ?_⟩
  · rw [set_next] at hj; rw [set_ne _ _ _ _ (by omega)]; exact k.bnd j hj
  · rw [set_ne _ _ _ _ (by omega)]; exact k.old j hj
  · simp only [PH.one] at hu
    split at hu
    · rename_i e; subst e; obtain rfl := Option.some.inj hu; exact upper_some.2 ⟨by rw [set_base, k.base]; exact c2, set_self _ _ _⟩
    · cases hu
  · obtain ⟨h1, h2⟩ := PH.minus_some.1 hu
    have hne : j ≠ i := by rintro rfl; rw [Ab.cell] at a; rw [a] at h1; cases h1
    obtain ⟨h3, h4⟩ := upper_some.1 h2
    exact PH.minus_some.2 ⟨by simp [PH.one, hne], upper_some.2 ⟨h3, by rw [set_ne _ _ _ _ hne]; exact h4⟩⟩

theorem Own.kill {i : Nat} {o : AObj} (k : Own O h (Ab.cell i o :: R)) : Own O (h.kill i) R := by
  obtain ⟨c1, c2, c3⟩ := k.atc
  obtain ⟨f, a, l, s⟩ := k.sat
  refine ⟨k.base, k.ble, fun j hj => ?_, fun j hj => ?_, s.mono fun j u hu => ?_⟩
  · rw [kill_next] at hj; rw [kill_ne _ _ _ (by omega)]; exact k.bnd j hj
  · rw [kill_ne _ _ _ (by omega)]; exact k.old j hj
  · obtain ⟨h1, h2⟩ := PH.minus_some.1 hu
    have hne : j ≠ i := by rintro rfl; rw [Ab.cell] at a; rw [a] at h1; cases h1
    obtain ⟨h3, h4⟩ := upper_some.1 h2
    exact upper_some.2 ⟨h3, by rw [kill_ne _ _ _ hne]; exact h4⟩

/-- What does nothing but make something new. -/
theorem Own.ext {h' : AHeap} (k : Own O h R) (x : Ext h h') (bnd : ∀ i, h'.next ≤ i → h'.obj i = none) : Own O h' R := by
  refine ⟨x.base.trans k.base, by rw [x.base]; exact Nat.le_trans k.ble x.next, bnd, fun i hi => ?_, k.sat.mono fun i o hi => ?_⟩
  · have := k.base; have := k.ble
    rw [x.old i (by omega)]; exact k.old i hi
  · obtain ⟨h1, h2⟩ := upper_some.1 hi
    have : i < h.next := by
      rcases Nat.lt_or_ge i h.next with h3 | h3
      · exact h3
      · rw [k.bnd i h3] at h2; cases h2
    exact upper_some.2 ⟨by rw [x.base]; exact h1, by rw [x.old i this]; exact h2⟩
end

section
variable {O : Old} {h : AHeap} {R : List Chunk}
theorem Own.b1 {X0 X1 : Chunk} (k : Own O h (X0 :: X1 :: R)) : Own O h (X1 :: X0 :: R) := k.bring 1 rfl rfl
theorem Own.b2 {X0 X1 X2 : Chunk} (k : Own O h (X0 :: X1 :: X2 :: R)) : Own O h (X2 :: X0 :: X1 :: R) := k.bring 2 rfl rfl
theorem Own.p2 {X0 X1 X2 : Chunk} (k : Own O h (X0 :: X1 :: X2 :: R)) : Own O h (X1 :: X2 :: X0 :: R) := k.perm ((perm_bring (L := X1 :: X2 :: X0 :: R) (n := 2) rfl))
theorem Own.b3 {X0 X1 X2 X3 : Chunk} (k : Own O h (X0 :: X1 :: X2 :: X3 :: R)) : Own O h (X3 :: X0 :: X1 :: X2 :: R) := k.bring 3 rfl rfl
theorem Own.p3 {X0 X1 X2 X3 : Chunk} (k : Own O h (X0 :: X1 :: X2 :: X3 :: R)) : Own O h (X1 :: X2 :: X3 :: X0 :: R) := k.perm ((perm_bring (L := X1 :: X2 :: X3 :: X0 :: R) (n := 3) rfl))
theorem Own.b4 {X0 X1 X2 X3 X4 : Chunk} (k : Own O h (X0 :: X1 :: X2 :: X3 :: X4 :: R)) : Own O h (X4 :: X0 :: X1 :: X2 :: X3 :: R) := k.bring 4 rfl rfl
theorem Own.p4 {X0 X1 X2 X3 X4 : Chunk} (k : Own O h (X0 :: X1 :: X2 :: X3 :: X4 :: R)) : Own O h (X1 :: X2 :: X3 :: X4 :: X0 :: R) := k.perm ((perm_bring (L := X1 :: X2 :: X3 :: X4 :: X0 :: R) (n := 4) rfl))
theorem Own.b5 {X0 X1 X2 X3 X4 X5 : Chunk} (k : Own O h (X0 :: X1 :: X2 :: X3 :: X4 :: X5 :: R)) : Own O h (X5 :: X0 :: X1 :: X2 :: X3 :: X4 :: R) := k.bring 5 rfl rfl
theorem Own.p5 {X0 X1 X2 X3 X4 X5 : Chunk} (k : Own O h (X0 :: X1 :: X2 :: X3 :: X4 :: X5 :: R)) : Own O h (X1 :: X2 :: X3 :: X4 :: X5 :: X0 :: R) := k.perm ((perm_bring (L := X1 :: X2 :: X3 :: X4 :: X5 :: X0 :: R) (n := 5) rfl))
theorem Own.b6 {X0 X1 X2 X3 X4 X5 X6 : Chunk} (k : Own O h (X0 :: X1 :: X2 :: X3 :: X4 :: X5 :: X6 :: R)) : Own O h (X6 :: X0 :: X1 :: X2 :: X3 :: X4 :: X5 :: R) := k.bring 6 rfl rfl
theorem Own.p6 {X0 X1 X2 X3 X4 X5 X6 : Chunk} (k : Own O h (X0 :: X1 :: X2 :: X3 :: X4 :: X5 :: X6 :: R)) : Own O h (X1 :: X2 :: X3 :: X4 :: X5 :: X6 :: X0 :: R) := k.perm ((perm_bring (L := X1 :: X2 :: X3 :: X4 :: X5 :: X6 :: X0 :: R) (n := 6) rfl))
theorem Own.b7 {X0 X1 X2 X3 X4 X5 X6 X7 : Chunk} (k : Own O h (X0 :: X1 :: X2 :: X3 :: X4 :: X5 :: X6 :: X7 :: R)) : Own O h (X7 :: X0 :: X1 :: X2 :: X3 :: X4 :: X5 :: X6 :: R) := k.bring 7 rfl rfl
theorem Own.p7 {X0 X1 X2 X3 X4 X5 X6 X7 : Chunk} (k : Own O h (X0 :: X1 :: X2 :: X3 :: X4 :: X5 :: X6 :: X7 :: R)) : Own O h (X1 :: X2 :: X3 :: X4 :: X5 :: X6 :: X7 :: X0 :: R) := k.perm ((perm_bring (L := X1 :: X2 :: X3 :: X4 :: X5 :: X6 :: X7 :: X0 :: R) (n := 7) rfl))
theorem Own.b8 {X0 X1 X2 X3 X4 X5 X6 X7 X8 : Chunk} (k : Own O h (X0 :: X1 :: X2 :: X3 :: X4 :: X5 :: X6 :: X7 :: X8 :: R)) : Own O h (X8 :: X0 :: X1 :: X2 :: X3 :: X4 :: X5 :: X6 :: X7 :: R) := k.bring 8 rfl rfl
theorem Own.p8 {X0 X1 X2 X3 X4 X5 X6 X7 X8 : Chunk} (k : Own O h (X0 :: X1 :: X2 :: X3 :: X4 :: X5 :: X6 :: X7 :: X8 :: R)) : Own O h (X1 :: X2 :: X3 :: X4 :: X5 :: X6 :: X7 :: X8 :: X0 :: R) := k.perm ((perm_bring (L := X1 :: X2 :: X3 :: X4 :: X5 :: X6 :: X7 :: X8 :: X0 :: R) (n := 8) rfl))
theorem Own.d1 {X0 X1 : Chunk} (k : Own O h (X0 :: X1 :: R)) : Own O h (X0 :: R) := k.drop 1 rfl rfl
theorem Own.d2 {X0 X1 X2 : Chunk} (k : Own O h (X0 :: X1 :: X2 :: R)) : Own O h (X0 :: X1 :: R) := k.drop 2 rfl rfl
theorem Own.d3 {X0 X1 X2 X3 : Chunk} (k : Own O h (X0 :: X1 :: X2 :: X3 :: R)) : Own O h (X0 :: X1 :: X2 :: R) := k.drop 3 rfl rfl
theorem Own.d4 {X0 X1 X2 X3 X4 : Chunk} (k : Own O h (X0 :: X1 :: X2 :: X3 :: X4 :: R)) : Own O h (X0 :: X1 :: X2 :: X3 :: R) := k.drop 4 rfl rfl
theorem Own.d5 {X0 X1 X2 X3 X4 X5 : Chunk} (k : Own O h (X0 :: X1 :: X2 :: X3 :: X4 :: X5 :: R)) : Own O h (X0 :: X1 :: X2 :: X3 :: X4 :: R) := k.drop 5 rfl rfl
theorem Own.d6 {X0 X1 X2 X3 X4 X5 X6 : Chunk} (k : Own O h (X0 :: X1 :: X2 :: X3 :: X4 :: X5 :: X6 :: R)) : Own O h (X0 :: X1 :: X2 :: X3 :: X4 :: X5 :: R) := k.drop 6 rfl rfl
theorem Own.d7 {X0 X1 X2 X3 X4 X5 X6 X7 : Chunk} (k : Own O h (X0 :: X1 :: X2 :: X3 :: X4 :: X5 :: X6 :: X7 :: R)) : Own O h (X0 :: X1 :: X2 :: X3 :: X4 :: X5 :: X6 :: R) := k.drop 7 rfl rfl
end

/-! ### Slices that are one's own -/
/-- A slice of n elements, whose cells are cs, that may be written. -/
def os (e : TypeId) (sz : Nat) (v : Value) (n : Nat) (cs : List Value) : Chunk := fun f =>
  (v = .slice none 0 0 ∧ n = 0 ∧ cs = []) ∨ ∃ i off cap c ti, v = .slice (some ⟨i, off, none⟩) n cap ∧ n ≤ cap ∧ f i = some (.row c e sz ti false) ∧ off + cap * sz ≤ c.length ∧ (c.drop off).take (n * sz) = cs

/-- Bytes that are one's own. -/
abbrev ob (e : TypeId) (v : Value) (bs : List UInt8) : Chunk := os e 1 v bs.length (bs.map B)

section
variable {O : Old} {h : AHeap} {R : List Chunk} {e : TypeId} {sz n : Nat} {v : Value} {cs : List Value} {bs : List UInt8}

theorem os_nil (e : TypeId) (sz : Nat) (f : PH) : os e sz (.slice none 0 0) 0 [] f := .inl ⟨rfl, rfl, rfl⟩

theorem Own.nil (e : TypeId) (sz : Nat) (k : Own O h R) : Own O h (os e sz (.slice none 0 0) 0 [] :: R) := k.addEmp.imp fun f _ => os_nil e sz f

/-- Either nothing, or a row. -/
theorem Own.os_cases (k : Own O h (os e sz v n cs :: R)) : (v = .slice none 0 0 ∧ n = 0 ∧ cs = [] ∧ Own O h R) ∨
    ∃ i off cap c ti, v = .slice (some ⟨i, off, none⟩) n cap ∧ n ≤ cap ∧ off + cap * sz ≤ c.length ∧ (c.drop off).take (n * sz) = cs ∧ Own O h (cell i (.row c e sz ti false) :: R) := by
  obtain ⟨a, b, c, d, f, hf, l, s⟩ := k
  rcases hf with ⟨rfl, rfl, rfl⟩ | ⟨i, off, cap, c', ti, rfl, h1, h2, h3, h4⟩
  · exact .inl ⟨rfl, rfl, rfl, a, b, c, d, s.mono PH.minus_le⟩
  · exact .inr ⟨i, off, cap, c', ti, rfl, h1, h3, h4, a, b, c, d, f, h2, l, s⟩

theorem Own.os_mk {i off cap : Nat} {c : List Value} {ti : Bool} (k : Own O h (cell i (.row c e sz ti false) :: R)) (h1 : n ≤ cap) (h2 : off + cap * sz ≤ c.length) (h3 : (c.drop off).take (n * sz) = cs) :
    Own O h (os e sz (.slice (some ⟨i, off, none⟩) n cap) n cs :: R) := k.imp fun f hf => .inr ⟨i, off, cap, c, ti, rfl, h1, hf, h2, h3⟩

theorem Own.os_sl (k : Own O h (os e sz v n cs :: R)) : Sl sz h v n cs := by
  rcases k.os_cases with ⟨rfl, rfl, rfl, _⟩ | ⟨i, off, cap, c, ti, rfl, h1, h2, h3, k2⟩
  · exact .inl ⟨rfl, rfl, rfl⟩
  · have := Nat.mul_le_mul_right sz h1
    exact .inr ⟨i, off, cap, c, e, sz, ti, false, rfl, h1, k2.atc.2.2, k2.obj, .inr rfl, by omega, h3⟩

theorem Own.ob_bytes (k : Own O h (ob e v bs :: R)) : Bytes h v bs := by
  rcases k.os_cases with ⟨rfl, h1, _⟩ | ⟨i, off, cap, c, ti, rfl, h1, h2, h3, k2⟩
  · exact .inl ⟨rfl, by simpa using h1⟩
  · exact .inr ⟨i, off, cap, c, e, 1, ti, false, rfl, h1, k2.atc.2.2, k2.obj, .inr rfl, by omega, by rw [Nat.mul_one] at h3; exact h3⟩

theorem setL_drop_take (l c : List Value) (a b : Nat) (hb : b + l.length ≤ c.length) (ha : a ≤ b) : ((setL c b l).drop a).take (b - a + l.length) = (c.drop a).take (b - a) ++ l := by
  induction l generalizing c b with
  | nil => simp [setL]
  | cons x l ih =>
    simp only [List.length_cons] at hb
    have e1 : b - a + (x :: l).length = (b + 1) - a + l.length := by simp; omega
    rw [setL, e1, ih (c.set b x) (b + 1) (by simp; omega) (by omega)]
    have e2 : b + 1 - a = (b - a) + 1 := by omega
    rw [e2]
    have hlt : b - a < ((c.set b x).drop a).length := by simp; omega
    rw [List.take_succ_eq_append_getElem hlt, List.append_assoc]
    congr 1
    · apply List.ext_getElem?
      intro j
      simp only [List.getElem?_take, List.getElem?_drop]
      split
      · rw [List.getElem?_set_ne (by omega)]
      · rfl
    · simp only [List.getElem_drop, show a + (b - a) = b by omega]
      simp

/-- What is put behind. -/
theorem Own.app {P : Program} {t xt : TypeId} {by_ m : Nat} {z xv : Value} {xs : List Value} (ht : P.underlying t = some (.slice e)) (hs : tsz P e = some sz) (hb : tby P e = some by_) (hz : tzero P e = some z)
    (hn : noInt P xt = true) (h0 : 0 < sz) (h1 : 0 < by_) (h2 : z.cells.size = sz) (k : Own O h (os e sz v n cs :: R)) (hx : srcCells h sz xv = some (m, xs)) (hl : xs.length = m * sz) (hok : xs.all okCell = true) (hc : (n + m) * by_ ≤ 140737488355328) :
    ∃ v' h', appendW P h t xt v xv = some (v', h') ∧ Own O h' (os e sz v' (n + m) (cs ++ xs) :: R) := by
  have hcond : noInt P xt = true ∧ 0 < sz ∧ 0 < by_ ∧ z.cells.size = sz ∧ xs.all okCell = true := ⟨hn, h0, h1, h2, hok⟩
  rcases k.os_cases with ⟨rfl, rfl, rfl, k2⟩ | ⟨i, off, cap, c, ti, rfl, q1, q2, rfl, k2⟩
  · simp only [appendW, ht, hs, hb, hz, hx]
    rw [if_pos hcond]
    by_cases hm : m = 0
    · subst hm
      obtain rfl : xs = [] := by rw [← List.length_eq_zero_iff]; omega
      rw [if_pos rfl]
      exact ⟨_, _, rfl, k2.nil _ _⟩
    · rw [if_neg hm, if_pos (by simpa using hc)]
      refine ⟨_, _, rfl, ?_⟩
      have := (k2.push (.row xs e sz false false)).os_mk (n := m) (cap := m) (off := 0) (cs := xs) (Nat.le_refl _) (by omega) (by simp [← hl])
      simpa using this
  · simp only [appendW, ht, hs, hb, hz, hx]
    rw [if_pos hcond]
    by_cases hm : m = 0
    · subst hm
      obtain rfl : xs = [] := by rw [← List.length_eq_zero_iff]; omega
      rw [if_pos rfl]
      exact ⟨_, _, rfl, by simpa using k⟩
    · have qm := Nat.mul_le_mul_right sz q1
      rw [if_neg hm, k2.obj]
      simp only []
      rw [if_pos ⟨trivial, by omega⟩]
      have hlen : ((c.drop off).take (n * sz)).length = n * sz := by simp; omega
      have hmul : (n + m) * sz = n * sz + m * sz := Nat.add_mul _ _ _
      by_cases hr : n + m ≤ cap
      · have qm2 := Nat.mul_le_mul_right sz hr
        rw [if_pos hr, if_pos ⟨trivial, by omega⟩]
        refine ⟨_, _, rfl, (k2.set _).os_mk hr (by rw [setL_length]; exact q2) ?_⟩
        have := setL_drop_take xs c off (off + n * sz) (by omega) (by omega)
        rw [show off + n * sz - off = n * sz by omega, hl, ← hmul] at this
        exact this
      · rw [if_neg hr, if_pos hc]
        have fin : ∀ {h2 : AHeap}, Own O h2 R → Own O (h2.push (.row ((c.drop off).take (n * sz) ++ xs) e sz false false)) (os e sz (.slice (some ⟨h2.next, 0, none⟩) (n + m) (n + m)) (n + m) ((c.drop off).take (n * sz) ++ xs) :: R) := fun k3 =>
          (k3.push _).os_mk (Nat.le_refl _) (by simp only [List.length_append, hlen, hl]; omega) (by rw [List.drop_zero, List.take_of_length_le (by simp only [List.length_append, hlen, hl]; omega)])
        by_cases hti : ti = true
        · rw [if_pos hti]
          exact ⟨_, _, rfl, fin k2.tail⟩
        · rw [if_neg hti, if_pos ⟨trivial, by rw [k.base]; exact k2.atc.2.1, trivial⟩]
          have := fin k2.kill
          rw [kill_next] at this
          exact ⟨_, _, rfl, this⟩

theorem Own.appB {P : Program} {t xt : TypeId} {xv : Value} {xs : List UInt8} (ht : P.underlying t = some (.slice e)) (hs : tsz P e = some 1) (hb : tby P e = some 1) (hz : tzero P e = some (.int .u8 0))
    (hn : noInt P xt = true) (k : Own O h (ob e v bs :: R)) (hx : srcCells h 1 xv = some (xs.length, xs.map B)) (hc : bs.length + xs.length ≤ 140737488355328) :
    ∃ a cap h', appendW P h t xt v xv = some (.slice a (bs.length + xs.length) cap, h') ∧ Own O h' (ob e (.slice a (bs.length + xs.length) cap) (bs ++ xs) :: R) := by
  obtain ⟨v', h', e1, k2⟩ := Own.app ht hs hb hz hn (by omega) (by omega) (by rfl) k hx (by simp) (all_okCell_B xs) (by omega)
  obtain ⟨a, cap, rfl⟩ := k2.os_sl.val
  exact ⟨a, cap, h', e1, by simpa [ob] using k2⟩

/-- A piece of a slice that is one's own. -/
theorem Own.os_slice {P : Program} {t : TypeId} (ht : P.underlying t = some (.slice e)) (hs : tsz P e = some sz) {lo hi : Nat} (h1 : lo ≤ hi) (h2 : hi ≤ n)
    {l u : Option Value} (hl : (l = none ∧ lo = 0) ∨ ∃ kd, l = some (.int kd lo)) (hu : (u = none ∧ hi = n) ∨ ∃ kd, u = some (.int kd hi)) (k : Own O h (os e sz v n cs :: R)) :
    ∃ v', sliceR P h t v l u none = some v' ∧ Own O h (os e sz v' (hi - lo) ((cs.drop (lo * sz)).take ((hi - lo) * sz)) :: R) := by
  rcases k.os_cases with ⟨rfl, rfl, rfl, k2⟩ | ⟨i, off, cap, c, ti, rfl, q1, q2, rfl, k2⟩
  · obtain rfl : hi = 0 := by omega
    obtain rfl : lo = 0 := by omega
    refine ⟨.slice none 0 0, ?_, by simpa using k2.nil e sz⟩
    rcases hl with ⟨rfl, _⟩ | ⟨kd, rfl⟩ <;> rcases hu with ⟨rfl, _⟩ | ⟨kd', rfl⟩ <;> simp [sliceR, ht, hs, bnds, sb]
  · have hb : bnds n cap l u none = some (lo, hi, cap) := by
      have hc : hi ≤ cap := by omega
      rcases hl with ⟨rfl, hl⟩ | ⟨kd, rfl⟩ <;> rcases hu with ⟨rfl, hu⟩ | ⟨kd', rfl⟩ <;> first
        | (simp [bnds, sb, hc, h1]; done)
        | (simp [bnds, sb, hc, h1]; omega)
        | (subst hu; simp [bnds, sb, h1]; done)
        | (subst hu; simp [bnds, sb, h1]; omega)
    refine ⟨_, by simp only [sliceR, ht, hs, k2.obj, hb]; rw [if_pos (by simp)], ?_⟩
    have e1 : ∀ x, x ≤ n → ((c.drop off).take (n * sz)).take (x * sz) = (c.drop off).take (x * sz) := fun x hx => by
      rw [List.take_take, Nat.min_eq_left (Nat.mul_le_mul_right _ hx)]
    have e2 : ((((c.drop off).take (n * sz)).drop (lo * sz)).take ((hi - lo) * sz)) = (c.drop (off + lo * sz)).take ((hi - lo) * sz) := by
      have := Nat.mul_le_mul_right sz h2
      rw [List.drop_take, List.drop_drop, List.take_take, Nat.min_eq_left]
      rw [← Nat.sub_mul]; exact Nat.mul_le_mul_right _ (by omega)
    rw [e2]
    split
    · have h0 : hi - lo = 0 := by omega
      rw [h0]
      exact k2.os_mk (Nat.le_refl _) (by omega) (by simp)
    · have hm : lo * sz + (cap - lo) * sz = cap * sz := by rw [← Nat.add_mul]; congr 1; omega
      exact k2.os_mk (by omega) (by omega) rfl

theorem Own.ob_slice {P : Program} {t : TypeId} (ht : P.underlying t = some (.slice e)) (hs : tsz P e = some 1) {lo hi : Nat} (h1 : lo ≤ hi) (h2 : hi ≤ bs.length)
    {l u : Option Value} (hl : (l = none ∧ lo = 0) ∨ ∃ kd, l = some (.int kd lo)) (hu : (u = none ∧ hi = bs.length) ∨ ∃ kd, u = some (.int kd hi)) (k : Own O h (ob e v bs :: R)) :
    ∃ v', sliceR P h t v l u none = some v' ∧ Own O h (ob e v' ((bs.take hi).drop lo) :: R) := by
  obtain ⟨v', e1, k2⟩ := k.os_slice ht hs h1 h2 hl hu
  refine ⟨v', e1, ?_⟩
  have e2 : ((bs.take hi).drop lo).length = hi - lo := by simp; omega
  have e3 : (((bs.map B).drop (lo * 1)).take ((hi - lo) * 1)) = ((bs.take hi).drop lo).map B := by
    rw [Nat.mul_one, Nat.mul_one, ← List.map_drop, ← List.map_take, List.drop_take]
  rw [e3] at k2
  unfold ob; rw [e2]; exact k2

/-- New bytes, as they lie from a number on. -/
theorem Own.of_obytes {h' : AHeap} (k : Own O h R) (x : Ext h h') (bnd : ∀ i, h'.next ≤ i → h'.obj i = none) (b : GS e sz h.next h' v n cs) : Own O h' (os e sz v n cs :: R) := by
  have k2 := k.ext x bnd
  rcases b with ⟨rfl, rfl, rfl⟩ | ⟨i, off, c, ti, rfl, h1, h2, h3, h4, h5⟩
  · exact k2.nil _ _
  · have hb := k.ble
    refine ⟨k2.base, k2.ble, k2.bnd, k2.old, PH.one i (.row c e sz ti false), .inr ⟨i, off, n, c, ti, rfl, Nat.le_refl _, by simp [PH.one], h4, h5⟩, fun j o hj => ?_, k.sat.mono fun j o hj => ?_⟩
    · simp only [PH.one] at hj
      split at hj
      · rename_i ej; subst ej; obtain rfl := Option.some.inj hj; exact upper_some.2 ⟨by rw [x.base]; omega, h3⟩
      · cases hj
    · obtain ⟨q1, q2⟩ := upper_some.1 hj
      have : j < h.next := by
        rcases Nat.lt_or_ge j h.next with h3 | h3
        · exact h3
        · rw [k.bnd j h3] at q2; cases q2
      refine PH.minus_some.2 ⟨by simp [PH.one]; omega, upper_some.2 ⟨by rw [x.base]; exact q1, by rw [x.old j this]; exact q2⟩⟩
end

/-- What was there at the call is there. -/
structure OldIn (O : Old) (h : AHeap) : Prop where
  base : O.base ≤ h.next
  old : ∀ i, i < O.base → h.obj i = O.obj i

theorem Own.oldIn {O : Old} {h : AHeap} {L : List Chunk} (k : Own O h L) : OldIn O h := ⟨k.base ▸ k.ble, k.old⟩

def AHeap.asOld (h : AHeap) : Old := ⟨h.base, h.obj⟩

theorem Own.start (h : AHeap) (hb : h.base ≤ h.next) (hn : ∀ i, h.next ≤ i → h.obj i = none) : Own h.asOld h [] := ⟨rfl, hb, hn, fun _ _ => rfl, trivial⟩
end Ab
end

section
namespace Ab
open Go
set_option autoImplicit false
set_option linter.unusedVariables false
set_option linter.unusedSimpArgs false

/-! ### Rules for a walk that goes by itself: all slots are kept -/
section
variable {P : Program} {Q : Exit → St → AHeap → Prop} {s s2 : St} {h h2 : AHeap} {id : Nat} {ops : Array Oper} {x y : Code}

theorem AWP.condT {t : Nat} (hc : s.get t = some (.bool true)) (k : AWP P x Q s h) : AWP P (.cond (.tmp t) x y) Q s h := AWP.cond hc (fun _ => k) (fun e => by cases e)
theorem AWP.condF {t : Nat} (hc : s.get t = some (.bool false)) (k : AWP P y Q s h) : AWP P (.cond (.tmp t) x y) Q s h := AWP.cond hc (fun e => by cases e) (fun _ => k)

/-- One behind the other. -/
def obind2 {β : Type} : Option (St × AHeap) → (St → AHeap → Option β) → Option β
  | some p, k => k p.1 p.2
  | none, _ => none

theorem obind2_some {β : Type} {k : St → AHeap → Option β} : obind2 (some (s, h)) k = k s h := by rw [obind2]

theorem obind2_eq {β : Type} {x : Option (St × AHeap)} {k : St → AHeap → Option β} : obind2 x k = x.bind fun p => k p.1 p.2 := by cases x <;> rfl

/-- A row of operations, as the walker goes. -/
noncomputable def runE (P : Program) (ops : Array Oper) : List Oper → St → AHeap → Option (St × AHeap) := runL P ops

theorem runE_nil : runE P ops [] s h = some (s, h) := by rw [runE, runL_nil]
theorem runE_cons {o : Oper} {l : List Oper} {n : Nat} {L : List (Nat × Value)} : runE P ops (o :: l) ⟨n, L⟩ h = obind2 (stepR P ops o ⟨n, L⟩ h) (runE P ops l) := by
  rw [obind2_eq, runE, runL_cons]

theorem AWP.rE (e : runE P ops ops.toList s h = some (s2, h2)) (k : Q .normal s2 h2) : AWP P (.region id ops false) Q s h :=
  AWP.region (awpL_rest e k)

/-- What an operation comes to, or which call it is. -/
noncomputable def stepC (P : Program) (ops : Array Oper) (o : Oper) (s : St) (h : AHeap) : Option (Sum (St × AHeap) (FuncId × Array Value)) :=
  if dstOk s o.dst = true then
    match guardA ops s o.guard with
    | some true => match evalOp P h s o.op with
      | some q => some (.inl (putO s o.dst q.1, q.2))
      | none => (callOf s h o.op).map .inr
    | some false => some (.inl (putO s o.dst undef, h))
    | none => none
  else none

/-- To the next call. -/
def obindC {β : Type} : Option (Sum (St × AHeap) (FuncId × Array Value)) → (St → AHeap → Option β) → (FuncId × Array Value → Option β) → Option β
  | some (.inl p), k, _ => k p.1 p.2
  | some (.inr c), _, k => k c
  | none, _, _ => none

theorem obindC_inl {β : Type} {k : St → AHeap → Option β} {k2 : FuncId × Array Value → Option β} : obindC (some (.inl (s, h))) k k2 = k s h := by rw [obindC]
theorem obindC_inr {β : Type} {k : St → AHeap → Option β} {k2 : FuncId × Array Value → Option β} {c : FuncId × Array Value} : obindC (some (.inr c)) k k2 = k2 c := by rw [obindC]

def toCallK (s : St) (h : AHeap) (d : Option Nat) (l : List Oper) (c : FuncId × Array Value) : Option (St × AHeap × (FuncId × Array Value) × Option Nat × List Oper) := some (s, h, c, d, l)
theorem toCallK_eq {d : Option Nat} {l : List Oper} {c : FuncId × Array Value} : toCallK s h d l c = some (s, h, c, d, l) := by rw [toCallK]

noncomputable def toCall (P : Program) (ops : Array Oper) : List Oper → St → AHeap → Option (St × AHeap × (FuncId × Array Value) × Option Nat × List Oper)
  | [], _, _ => none
  | o :: l, s, h => obindC (stepC P ops o s h) (toCall P ops l) (toCallK s h o.dst l)

theorem toCall_cons {o : Oper} {l : List Oper} {n : Nat} {L : List (Nat × Value)} : toCall P ops (o :: l) ⟨n, L⟩ h = obindC (stepC P ops o ⟨n, L⟩ h) (toCall P ops l) (toCallK ⟨n, L⟩ h o.dst l) := by rw [toCall]

theorem awpL_toCall {Qn : St → AHeap → Prop} : ∀ {l rest : List Oper} {s s2 : St} {h h2 : AHeap} {c : FuncId × Array Value} {d : Option Nat}, toCall P ops l s h = some (s2, h2, c, d, rest) → goCall P c.1 = true →
    ACalls P c.1 c.2 h2 (fun v h' => awpL P ops Qn rest (putO s2 d v) h') → awpL P ops Qn l s h
  | [], _, _, _, _, _, _, _, e, _, _ => by cases e
  | o :: l, rest, s, s2, h, h2, c, d, e, hg, k => by
    simp only [toCall] at e
    cases hq : stepC P ops o s h with
    | none => rw [hq] at e; cases e
    | some q =>
    rw [hq] at e
    unfold stepC at hq
    split at hq
    · rename_i hd
      refine ⟨hd, ?_⟩
      split at hq
      · rename_i hgd
        rw [hgd]
        split at hq
        · rename_i p hp
          obtain rfl := Option.some.inj hq
          show stepA P o s h _
          unfold stepA
          rw [hp]
          exact awpL_toCall e hg k
        · simp only [Option.map_eq_some_iff] at hq
          obtain ⟨c', hc, rfl⟩ := hq
          simp only [obindC, toCallK, Option.some.injEq, Prod.mk.injEq] at e
          obtain ⟨rfl, rfl, rfl, rfl, rfl⟩ := e
          exact stepA_call hc hg k
      · rename_i hgd
        rw [hgd]
        obtain rfl := Option.some.inj hq
        exact awpL_toCall e hg k
      · cases hq
    · cases hq

/-- .. up to a function of Go's library without a body. -/
theorem awpL_toExt {Qn : St → AHeap → Prop} {x : Ex} {v : Value} : ∀ {l rest : List Oper} {s s2 : St} {h h2 : AHeap} {c : FuncId × Array Value} {d : Option Nat}, toCall P ops l s h = some (s2, h2, c, d, rest) → ExRow P c.1 x → exV h2 x c.2.toList = some v →
    awpL P ops Qn rest (putO s2 d v) h2 → awpL P ops Qn l s h
  | [], _, _, _, _, _, _, _, e, _, _, _ => by cases e
  | o :: l, rest, s, s2, h, h2, c, d, e, hx, hv, k => by
    simp only [toCall] at e
    cases hq : stepC P ops o s h with
    | none => rw [hq] at e; cases e
    | some q =>
    rw [hq] at e
    unfold stepC at hq
    split at hq
    · rename_i hd
      refine ⟨hd, ?_⟩
      split at hq
      · rename_i hgd
        rw [hgd]
        split at hq
        · rename_i p hp
          obtain rfl := Option.some.inj hq
          show stepA P o s h _
          unfold stepA
          rw [hp]
          exact awpL_toExt e hx hv k
        · simp only [Option.map_eq_some_iff] at hq
          obtain ⟨c', hc, rfl⟩ := hq
          simp only [obindC, toCallK, Option.some.injEq, Prod.mk.injEq] at e
          obtain ⟨rfl, rfl, rfl, rfl, rfl⟩ := e
          exact stepA_ext hc hx hv k
      · rename_i hgd
        rw [hgd]
        obtain rfl := Option.some.inj hq
        exact awpL_toExt e hx hv k
      · cases hq
    · cases hq
theorem AWP.extE {rest : List Oper} {c : FuncId × Array Value} {d : Option Nat} {x : Ex} {v : Value} (e : toCall P ops ops.toList s h = some (s2, h2, c, d, rest)) (hx : ExRow P c.1 x) (hv : exV h2 x c.2.toList = some v)
    (k : awpL P ops (Q .normal) rest (putO s2 d v) h2) : AWP P (.region id ops false) Q s h :=
  AWP.region (awpL_toExt e hx hv k)
theorem AWP.callE {rest : List Oper} {c : FuncId × Array Value} {d : Option Nat} (e : toCall P ops ops.toList s h = some (s2, h2, c, d, rest)) (hg : goCall P c.1 = true)
    (k : ACalls P c.1 c.2 h2 fun v h' => awpL P ops (Q .normal) rest (putO s2 d v) h') : AWP P (.region id ops false) Q s h :=
  AWP.region (awpL_toCall e hg k)

/-- The rest of a region behind a call. -/
theorem awpL_restE {Qn : St → AHeap → Prop} {l : List Oper} (e : runE P ops l s h = some (s2, h2)) (k : Qn s2 h2) : awpL P ops Qn l s h := awpL_rest e k

/-! ### Drawn regions -/
theorem still_nil : ∀ (rc : List (Nat × Ent)), still P ops h rc []
  | [] => trivial
  | (j, e) :: l => ⟨by simp, still_nil l⟩

/-- One item; a writing that stands in order to all reading, too. -/
noncomputable def stepDW (P : Program) (ops : Array Oper) (it : PItem) (s : St) (h : AHeap) : Option (St × AHeap) :=
  match it with
  | .n i ts => match ops[i]? with
    | none => none
    | some o => if dstOk s o.dst = true then
        match guardA ops (s.only ts) o.guard with
        | some false => some (putO s o.dst undef, h)
        | some true => match evalR P h (s.only ts) o.op with
          | some v => some (putO s o.dst v, h)
          | none => (evalA P h.next h.base (s.only ts) o.op).map fun q => (putO s o.dst q.1, h.push q.2)
        | none => none
      else none
  | .w i ts [] => match ops[i]? with
    | none => none
    | some o => if dstOk s o.dst = true then
        match guardA ops (s.only ts) o.guard with
        | some false => some (putO s o.dst undef, h)
        | some true => (evalOp P h (s.only ts) o.op).map fun q => (putO s o.dst q.1, q.2)
        | none => none
      else none
  | .w _ _ (_ :: _) => none

noncomputable def runDW (P : Program) (ops : Array Oper) : List PItem → St → AHeap → Option (St × AHeap)
  | [], s, h => some (s, h)
  | it :: l, s, h => obind2 (stepDW P ops it s h) (runDW P ops l)

theorem runDW_nil : runDW P ops [] s h = some (s, h) := by rw [runDW]
theorem runDW_cons {it : PItem} {l : List PItem} {n : Nat} {L : List (Nat × Value)} : runDW P ops (it :: l) ⟨n, L⟩ h = obind2 (stepDW P ops it ⟨n, L⟩ h) (runDW P ops l) := by rw [runDW]

theorem awpD_of_runDW {Qn : St → AHeap → Prop} : ∀ (l l2 : List PItem) {rc : List (Nat × Ent)} {s s' : St} {h h' : AHeap}, runDW P ops l s h = some (s', h') → (∀ rc, awpD P ops Qn l2 rc s' h') → awpD P ops Qn (l ++ l2) rc s h
  | [], l2, rc, s, s', h, h', e, k => by
    simp only [runDW, Option.some.injEq, Prod.mk.injEq] at e
    obtain ⟨rfl, rfl⟩ := e
    exact k _
  | it :: l, l2, rc, s, s', h, h', e, k => by
    simp only [runDW, obind2_eq, Option.bind_eq_some_iff] at e
    obtain ⟨⟨s1, h1⟩, hq, e⟩ := e
    show awpD P ops Qn (it :: (l ++ l2)) rc s h
    have ih := fun rc => awpD_of_runDW (Qn := Qn) l l2 (rc := rc) e k
    cases it with
    | n i ts =>
      simp only [stepDW] at hq
      simp only [awpD]
      split at hq
      · cases hq
      · rename_i o ho
        rw [ho]
        split at hq
        · rename_i hd
          refine ⟨hd, ?_⟩
          split at hq
          · rename_i hg
            rw [hg]
            simp only [Option.some.injEq, Prod.mk.injEq] at hq
            obtain ⟨rfl, rfl⟩ := hq
            exact ih _
          · rename_i hg
            rw [hg]
            simp only []
            split at hq
            · rename_i v hv
              rw [hv]
              simp only [Option.some.injEq, Prod.mk.injEq] at hq
              obtain ⟨rfl, rfl⟩ := hq
              exact ih _
            · rename_i hv
              rw [hv]
              simp only [Option.map_eq_some_iff, Prod.mk.injEq] at hq
              obtain ⟨⟨v, ob⟩, hv2, rfl, rfl⟩ := hq
              simp only [hv2]
              exact ih _
          · cases hq
        · cases hq
    | w i ts rs =>
      cases rs with
      | cons a r => cases hq
      | nil =>
        simp only [stepDW] at hq
        simp only [awpD]
        split at hq
        · cases hq
        · rename_i o ho
          rw [ho]
          split at hq
          · rename_i hd
            refine ⟨hd, ?_⟩
            split at hq
            · rename_i hg
              rw [hg]
              simp only [Option.some.injEq, Prod.mk.injEq] at hq
              obtain ⟨rfl, rfl⟩ := hq
              exact ih _
            · rename_i hg
              rw [hg]
              simp only [Option.map_eq_some_iff, Prod.mk.injEq] at hq
              obtain ⟨⟨v, h3⟩, hv, rfl, rfl⟩ := hq
              show stepA P o (s.only ts) h _
              unfold stepA
              rw [hv]
              exact ⟨still_nil _, ih _⟩
            · cases hq
          · cases hq

theorem AWP.dE (hmix : P.follows .mixedOrders = true) (items : List PItem) (hp : planOk ops items = true) (e : runDW P ops items s h = some (s2, h2)) (k : Q .normal s2 h2) : AWP P (.region id ops true) Q s h := by
  refine AWP.draw hmix items hp ?_
  have := awpD_of_runDW (Qn := Q .normal) items [] (rc := []) e (fun _ => k)
  rw [List.append_nil] at this
  exact this
end

/-- A call in a drawn region, of which nothing that is read ahead of it hangs. -/
theorem awpD_callE {P : Program} {ops : Array Oper} {Qn : St → AHeap → Prop} {l l1 l2 : List PItem} {rc : List (Nat × Ent)} {s s2 : St} {h h2 : AHeap} {i : Nat} {ts : List Nat} {o : Oper} {g : FuncId} {args : Array Value}
    (el : l = l1 ++ .w i ts [] :: l2) (e : runDW P ops l1 s h = some (s2, h2)) (ho : ops[i]? = some o) (hd : dstOk s2 o.dst = true)
    (hgd : guardA ops (s2.only ts) o.guard = some true) (ec : callOf (s2.only ts) h2 o.op = some (g, args)) (hg : goCall P g = true)
    (k : ACalls P g args h2 fun v h' => ∀ rc, awpD P ops Qn l2 rc (putO s2 o.dst v) h') : awpD P ops Qn l rc s h := by
  subst el
  refine awpD_of_runDW _ _ e fun rc => ?_
  simp only [awpD]
  rw [ho]
  refine ⟨hd, ?_⟩
  rw [hgd]
  exact stepA_call ec hg (k.mono fun v h' q => ⟨still_nil _, q _⟩)

theorem awpD_restE {P : Program} {ops : Array Oper} {Qn : St → AHeap → Prop} {l : List PItem} {rc : List (Nat × Ent)} {s s2 : St} {h h2 : AHeap} (e : runDW P ops l s h = some (s2, h2)) (k : Qn s2 h2) : awpD P ops Qn l rc s h := by
  have := awpD_of_runDW (Qn := Qn) l [] (rc := rc) e (fun _ => k)
  rwa [List.append_nil] at this

/-- A store, as the walker goes. -/
def okAll : List Value → Bool
  | [] => true
  | v :: l => okCell v && okAll l
def clV : Value → List Value
  | .agg cs => cs.toList
  | v => [v]
theorem okAll_eq : ∀ l : List Value, okAll l = l.all okCell
  | [] => rfl
  | v :: l => by rw [okAll, okAll_eq l, List.all_cons]
theorem clV_eq (v : Value) : clV v = v.cells.toList := by cases v <;> rfl
def storeE (P : Program) (h : AHeap) (t : TypeId) (x v : Value) : Option AHeap :=
  match x with
  | .pointer (some ⟨i, off, none⟩) => match h.obj i with
    | some (.row c e sz ti false) => if tsz P t = some (clV v).length ∧ off + (clV v).length ≤ c.length ∧ okAll (clV v) = true ∧ v.known = true then some (h.set i (.row (setL c off (clV v)) e sz ti false)) else none
    | _ => none
  | _ => none
theorem storeW_eq {P : Program} {h : AHeap} {t : TypeId} {x v : Value} : storeW P h t x v = storeE P h t x v := by
  cases x <;> try rfl
  rename_i a
  rcases a with _ | ⟨i, off, sp⟩
  · rfl
  · cases sp
    · simp only [storeW, storeE, clV_eq, okAll_eq, Array.length_toList]
      cases h.obj i with
      | none => rfl
      | some o =>
        cases o with
        | other o => rfl
        | row c e sz ti ro => cases ro <;> rfl
    · rfl
attribute [go_sem] storeE okAll clV
attribute [go_sem] obind2_some runE_nil runE_cons obindC_inl obindC_inr toCallK_eq toCall_cons stepC stepDW runDW_nil runDW_cons storeW_eq setL loadR fieldAddrP lenE List.set_cons_zero List.set_cons_succ

section
variable {O : Old} {h : AHeap} {R : List Chunk} {e : TypeId} {sz n : Nat} {v : Value} {cs : List Value}
theorem Own.os_val (k : Own O h (os e sz v n cs :: R)) : ∃ a cap, v = .slice a n cap := k.os_sl.val
end

/-! ### What is put behind out of a new array -/
section
variable {O : Old} {h : AHeap} {R : List Chunk} {e : TypeId} {sz n : Nat} {v : Value} {cs : List Value}
theorem Own.appN {P : Program} {t xt : TypeId} {by_ m i : Nat} {z : Value} {xs : List Value} (ht : P.underlying t = some (.slice e)) (hs : tsz P e = some sz) (hb : tby P e = some by_) (hz : tzero P e = some z)
    (hn : noInt P xt = true) (h0 : 0 < sz) (h1 : 0 < by_) (h2 : z.cells.size = sz) (k : Own O h (os e sz v n cs :: R)) (hi : i = h.next) (hl : xs.length = m * sz) (hok : xs.all okCell = true) (hc : (n + m) * by_ ≤ 140737488355328) :
    ∃ a cap h', appendW P (h.push (.row xs e sz true false)) t xt v (.slice (some ⟨i, 0, none⟩) m m) = some (.slice a (n + m) cap, h') ∧ Own O h' (os e sz (.slice a (n + m) cap) (n + m) (cs ++ xs) :: R) := by
  subst hi
  obtain ⟨v', h', e1, k2⟩ := Own.app (m := m) (xs := xs) (xv := .slice (some ⟨h.next, 0, none⟩) m m) ht hs hb hz hn h0 h1 h2 (k.push (.row xs e sz true false)).b1 (by simp [srcCells, push_self, hl]; rw [List.take_of_length_le (by omega)]) hl hok hc
  obtain ⟨a, cap, rfl⟩ := k2.os_val
  exact ⟨a, cap, h', e1, k2.d1⟩

/-- One element more, of one cell. -/
theorem Own.app1 {P : Program} {t xt : TypeId} {by_ i : Nat} {z x : Value} (ht : P.underlying t = some (.slice e)) (hs : tsz P e = some 1) (hb : tby P e = some by_) (hz : tzero P e = some z)
    (hn : noInt P xt = true) (h1 : 0 < by_) (h2 : z.cells.size = 1) (k : Own O h (os e 1 v n cs :: R)) (hi : i = h.next) (hok : okCell x = true) (hc : (n + 1) * by_ ≤ 140737488355328) :
    ∃ a cap h', appendW P (h.push (.row [x] e 1 true false)) t xt v (.slice (some ⟨i, 0, none⟩) 1 1) = some (.slice a (n + 1) cap, h') ∧ Own O h' (os e 1 (.slice a (n + 1) cap) (n + 1) (cs ++ [x]) :: R) :=
  Own.appN ht hs hb hz hn (by omega) h1 h2 k hi rfl (by simp [hok]) hc

/-- One byte more. -/
theorem Own.appB1 {P : Program} {t xt : TypeId} {i : Nat} {bs : List UInt8} {c : UInt8} (ht : P.underlying t = some (.slice e)) (hs : tsz P e = some 1) (hb : tby P e = some 1) (hz : tzero P e = some (.int .u8 0))
    (hn : noInt P xt = true) (k : Own O h (ob e v bs :: R)) (hi : i = h.next) (hc : bs.length + 1 ≤ 140737488355328) :
    ∃ a cap h', appendW P (h.push (.row [.int .u8 c.toNat] e 1 true false)) t xt v (.slice (some ⟨i, 0, none⟩) 1 1) = some (.slice a (bs.length + 1) cap, h') ∧ Own O h' (ob e (.slice a (bs.length + 1) cap) (bs ++ [c]) :: R) := by
  obtain ⟨a, cap, h', e1, k2⟩ := k.app1 (x := .int .u8 c.toNat) ht hs hb hz hn (by omega) rfl hi rfl (by omega)
  refine ⟨a, cap, h', e1, ?_⟩
  have e2 : (bs ++ [c]).length = bs.length + 1 := by simp
  have e3 : (bs ++ [c]).map B = bs.map B ++ [.int .u8 c.toNat] := by simp [B]
  unfold ob
  rw [e2, e3]; exact k2
end

theorem eqB (c d : UInt8) : ((c.toNat : Int) == (d.toNat : Int)) = (c == d) := by
  rw [Bool.eq_iff_iff, beq_iff_eq, beq_iff_eq]
  exact ⟨fun h => UInt8.toNat_inj.1 (Int.ofNat.inj h), fun h => by rw [h]⟩
theorem neI {c d : UInt8} (h : ¬ c = d) : ((c.toNat : Int) == (d.toNat : Int)) = false := by rw [eqB]; simpa using h
theorem neB {c d : UInt8} (h : ¬ c = d) : ¬ c.toNat = d.toNat := fun e => h (UInt8.toNat_inj.1 e)
theorem row_bytes {O : Old} {h : AHeap} {R : List Chunk} {i : Nat} {e : TypeId} {bs : List UInt8} {n : Nat} (k : Own O h (cell i (.row (bs.map B) e 1 true false) :: R)) (hn : n = bs.length) : Bytes h (.slice (some ⟨i, 0, none⟩) n n) bs := by
  subst hn
  exact (k.os_mk (n := bs.length) (off := 0) (cap := bs.length) (cs := bs.map B) (Nat.le_refl _) (by simp) (by simp [List.take_of_length_le])).ob_bytes
theorem buildSliceA_nil {P : Program} {id : Nat} {t : TypeId} {len : Nat} : buildSliceA P id t len [] = (match P.underlying t with
  | some (.slice e) => match tsz P e, tzero P e with
    | some n, some z =>
      if n ≠ 0 ∧ z.cells.size ≠ 0 ∧ len * n ≤ 16777216 ∧ z.cells.toList.all constCell = true then
        (Instr.fill (fun i => some (i * n, n)) (zeros z.cells (len * n)) []).map fun cs => (.slice (some ⟨id, 0, none⟩) len len, .row cs.toList e n true false)
      else none
    | _, _ => none
  | _ => none) := rfl
theorem buildSliceA_cons {P : Program} {id : Nat} {t : TypeId} {len : Nat} {p : Nat × Value} {l : List (Nat × Value)} : buildSliceA P id t len (p :: l) = (match P.underlying t with
  | some (.slice e) => match tsz P e, tzero P e with
    | some n, some z =>
      if n ≠ 0 ∧ z.cells.size ≠ 0 ∧ len * n ≤ 16777216 ∧ z.cells.toList.all constCell = true then
        (Instr.fill (fun i => some (i * n, n)) (zeros z.cells (len * n)) (p :: l)).map fun cs => (.slice (some ⟨id, 0, none⟩) len len, .row cs.toList e n true false)
      else none
    | _, _ => none
  | _ => none) := rfl
theorem buildP_nil {P : Program} {t : TypeId} : buildP P t [] = (match tzero P t with
  | some z => if constOk z && [].all (fun p : Nat × Value => p.2.known) then
      match P.underlying t with
      | some (.struct fs) => if fs.toList.all (fun f => (tsz P f.type).isSome) then
          (Instr.fill (fun i => (fs[i]?).map fun f => (f.offset, (tsz P f.type).getD 0)) z.cells []).map .agg else none
      | some (.array _ e) => (tsz P e).bind fun n => (Instr.fill (fun i => some (i * n, n)) z.cells []).map .agg
      | _ => none
    else none
  | none => none) := rfl
theorem buildP_cons {P : Program} {t : TypeId} {p : Nat × Value} {l : List (Nat × Value)} : buildP P t (p :: l) = (match tzero P t with
  | some z => if constOk z && (p :: l).all (fun p => p.2.known) then
      match P.underlying t with
      | some (.struct fs) => if fs.toList.all (fun f => (tsz P f.type).isSome) then
          (Instr.fill (fun i => (fs[i]?).map fun f => (f.offset, (tsz P f.type).getD 0)) z.cells (p :: l)).map .agg else none
      | some (.array _ e) => (tsz P e).bind fun n => (Instr.fill (fun i => some (i * n, n)) z.cells (p :: l)).map .agg
      | _ => none
    else none
  | none => none) := rfl
attribute [go_sem] buildSliceA_nil buildSliceA_cons zeros Instr.fill buildP_nil buildP_cons eqB

/-! ### Elements, by where they lie -/
theorem Bytes.at {P : Program} {h : AHeap} {v : Value} {bs : List UInt8} (k : Bytes h v bs) {t e : TypeId} (ht : P.underlying t = some (.slice e)) (hs : tsz P e = some 1) {j : Nat} (hj : j < bs.length) {kd : IntKind} :
    ∃ i off c e' sz ti ro, indexAddrP P t v (.int kd j) = some (.pointer (some ⟨i, off, none⟩)) ∧ h.obj i = some (.row c e' sz ti ro) ∧ c[off]? = some (.int .u8 bs[j].toNat) := by
  rcases k with ⟨rfl, rfl⟩ | ⟨i, off, cap, c, e', sz, ti, ro, rfl, h2, h3, h4, h5, h6, h7⟩
  · simp at hj
  · refine ⟨i, off + j, c, e', sz, ti, ro, by simp [indexAddrP, ht, hs, hj], h4, ?_⟩
    have e1 : ((c.drop off).take bs.length)[j]? = some (B bs[j]) := by rw [h7]; simp [hj]
    rw [List.getElem?_take, if_pos hj, List.getElem?_drop] at e1
    exact e1

theorem Sl.at1 {P : Program} {n : Nat} {h : AHeap} {v : Value} {cs : List Value} (k : Sl 1 h v n cs) {t e : TypeId} (ht : P.underlying t = some (.slice e)) (hs : tsz P e = some 1) {j : Nat} (hj : j < n) {x : Value} (hx : cs[j]? = some x) {kd : IntKind} :
    ∃ i off c e' sz ti ro, indexAddrP P t v (.int kd j) = some (.pointer (some ⟨i, off, none⟩)) ∧ h.obj i = some (.row c e' sz ti ro) ∧ c[off]? = some x := by
  obtain ⟨i, off, c, e', sz, ti, ro, h1, _, _, h4, h5⟩ := k.cell ht hs hj (f := 0) (by omega) (kd := kd) (by simpa using hx)
  exact ⟨i, off, c, e', sz, ti, ro, h1, h4, h5⟩

/-- A cell of a slice that is one's own is written. -/
theorem Own.os_write {O : Old} {h : AHeap} {R : List Chunk} {P : Program} {t e : TypeId} {n : Nat} {v : Value} {cs : List Value} (k : Own O h (os e 1 v n cs :: R)) (ht : P.underlying t = some (.slice e)) (hs : tsz P e = some 1) {j : Nat} (hj : j < n) (x : Value) {kd : IntKind} :
    ∃ i off c ti, indexAddrP P t v (.int kd j) = some (.pointer (some ⟨i, off, none⟩)) ∧ h.obj i = some (.row c e 1 ti false) ∧ off < c.length ∧ Own O (h.set i (.row (c.set off x) e 1 ti false)) (os e 1 v n (cs.set j x) :: R) := by
  rcases k.os_cases with ⟨_, rfl, _⟩ | ⟨i, off, cap, c, ti, rfl, q1, q2, rfl, k2⟩
  · omega
  · refine ⟨i, off + j, c, ti, by simp [indexAddrP, ht, hs, hj], k2.obj, by omega, (k2.set _).os_mk q1 (by simpa using q2) ?_⟩
    simp only [Nat.mul_one] at q2 ⊢
    have hl : off + j < c.length := by omega
    apply List.ext_getElem?
    intro m
    rw [List.getElem?_set]
    by_cases he : j = m
    · subst he
      rw [if_pos rfl, if_pos (by simp; omega), List.getElem?_take, if_pos hj, List.getElem?_drop, List.getElem?_set_self hl]
    · rw [if_neg he, List.getElem?_take, List.getElem?_take, List.getElem?_drop, List.getElem?_drop, List.getElem?_set_ne (by omega)]

/-! ### Texts -/
theorem size_str (l : List UInt8) : ByteArray.size ⟨l.toArray⟩ = l.length := rfl
theorem strA_add (a b : List UInt8) : strA .add ⟨a.toArray⟩ ⟨b.toArray⟩ = if a.length + b.length ≤ 9223372036854775807 then some (.string ⟨(a ++ b).toArray⟩) else none := by
  have e : (⟨a.toArray⟩ : ByteArray) ++ ⟨b.toArray⟩ = ⟨(a ++ b).toArray⟩ := by
    apply ByteArray.ext; rw [ByteArray.data_append]; simp
  rw [strA, e]; rfl
attribute [go_sem] size_str strA_add

theorem str_slice {P : Program} {h : AHeap} {t : TypeId} (ht : P.underlying t = some .string) {l : List UInt8} {lo hi : Nat} {a u : Option Value} (h1 : lo ≤ hi) (h2 : hi ≤ l.length)
    (hl : (a = none ∧ lo = 0) ∨ ∃ kd, a = some (.int kd lo)) (hu : (u = none ∧ hi = l.length) ∨ ∃ kd, u = some (.int kd hi)) :
    sliceR P h t (.string ⟨l.toArray⟩) a u none = some (.string ⟨((l.take hi).drop lo).toArray⟩) := by
  have hb : bnds l.length l.length a u none = some (lo, hi, l.length) := by
    rcases hl with ⟨rfl, hl⟩ | ⟨kd, rfl⟩ <;> rcases hu with ⟨rfl, hu⟩ | ⟨kd', rfl⟩ <;> first
      | (simp [bnds, sb, h2, h1]; done)
      | (simp [bnds, sb, h2, h1]; omega)
      | (subst hu; simp [bnds, sb, h1]; done)
      | (subst hu; simp [bnds, sb, h1]; omega)
  have e : (⟨l.toArray⟩ : ByteArray).extract lo hi = ⟨((l.take hi).drop lo).toArray⟩ := by
    apply ByteArray.ext
    rw [ByteArray.data_extract]
    apply Array.ext'
    simp [List.extract_eq_take_drop, List.take_drop]
    rw [show lo + (hi - lo) = hi by omega]
  have e0 : ByteArray.size ⟨l.toArray⟩ = l.length := rfl
  simp only [sliceR, ht, e0, hb, Option.isSome_none, Bool.false_eq_true, if_false, Option.map_some, e]

theorem strR_new {P : Program} {h : AHeap} {t e u : TypeId} {i n : Nat} {bs : List UInt8} (ht : P.underlying t = some (.slice e)) (he : P.underlying e = some (.int .u8)) (hu : P.underlying u = some .string) (hi : i = h.next) (hn : n = bs.length) :
    strR P (h.push (.row (bs.map B) e 1 true false)) t u (.slice (some ⟨i, 0, none⟩) n n) = some (.string ⟨bs.toArray⟩) := by
  subst hi hn
  exact Bytes.str ht he hu (.inr ⟨h.next, 0, bs.length, _, _, _, _, _, rfl, Nat.le_refl _, Nat.lt_succ_self _, push_self _ _, .inr rfl, by simp, by simp [List.take_of_length_le]⟩)

/-! ### What came in -/
theorem Own.old_next {h0 h : AHeap} {L : List Chunk} (o : Own h0.asOld h L) (hb : h0.base = h0.next) : h0.next ≤ h.next := by
  have h1 : h.base = h0.base := o.base
  have := o.ble
  omega
theorem Bytes.of_old {h0 h : AHeap} {L : List Chunk} {v : Value} {bs : List UInt8} (k : Bytes h0 v bs) (hb : h0.base = h0.next) (o : Own h0.asOld h L) : Bytes h v bs :=
  k.keep (o.old_next hb) fun j hj _ => o.old j (by show j < h0.base; omega)
theorem Sl.of_old {h0 h : AHeap} {L : List Chunk} {v : Value} {sz n : Nat} {cs : List Value} (k : Sl sz h0 v n cs) (hb : h0.base = h0.next) (o : Own h0.asOld h L) : Sl sz h v n cs :=
  k.keep (o.old_next hb) fun j hj _ => o.old j (by show j < h0.base; omega)

/-- Lists of bytes that came in. -/
def Pcs (h : AHeap) (v : Value) (ps : List (List UInt8)) : Prop :=
  ∃ cs, Sl 1 h v ps.length cs ∧ ∀ j (hj : j < ps.length), ∃ a cap, cs[j]? = some (.slice a ps[j].length cap) ∧ Bytes h (.slice a ps[j].length cap) ps[j]
theorem Pcs.of_old {h0 h : AHeap} {L : List Chunk} {v : Value} {ps : List (List UInt8)} (k : Pcs h0 v ps) (hb : h0.base = h0.next) (o : Own h0.asOld h L) : Pcs h v ps := by
  obtain ⟨cs, k1, k2⟩ := k
  refine ⟨cs, k1.of_old hb o, fun j hj => ?_⟩
  obtain ⟨a, cap, e, b⟩ := k2 j hj
  exact ⟨a, cap, e, b.of_old hb o⟩
theorem Pcs.val {h : AHeap} {v : Value} {ps : List (List UInt8)} (k : Pcs h v ps) : ∃ a cap, v = .slice a ps.length cap := by
  obtain ⟨cs, k1, _⟩ := k; exact k1.val
theorem Pcs.at {P : Program} {h : AHeap} {v : Value} {ps : List (List UInt8)} (k : Pcs h v ps) {t e : TypeId} (ht : P.underlying t = some (.slice e)) (hs : tsz P e = some 1) {j : Nat} (hj : j < ps.length) {kd : IntKind} :
    ∃ i off c e' sz ti ro a cap, indexAddrP P t v (.int kd j) = some (.pointer (some ⟨i, off, none⟩)) ∧ h.obj i = some (.row c e' sz ti ro) ∧ c[off]? = some (.slice a ps[j].length cap) ∧ Bytes h (.slice a ps[j].length cap) ps[j] := by
  obtain ⟨cs, k1, k2⟩ := k
  obtain ⟨a, cap, e, b⟩ := k2 j hj
  obtain ⟨i, off, c, e', sz, ti, ro, q1, q2, q3⟩ := k1.at1 ht hs hj e (kd := kd)
  exact ⟨i, off, c, e', sz, ti, ro, a, cap, q1, q2, q3, b⟩

/-- A call that needs to know that nothing is behind the heap's end. -/
theorem Own.of_wf {P : Program} {f : FuncId} {args : Array Value} {h : AHeap} {Q : Value → AHeap → Prop} (k : Own h.asOld h [] → ACalls P f args h Q) : ACalls P f args h Q :=
  ACalls.wf fun hb hn => k (Own.start h hb hn)
theorem Own.row_any {O : Old} {h : AHeap} {R : List Chunk} {i n : Nat} {e : TypeId} {cs : List Value} {ti : Bool} (k : Own O h (cell i (.row cs e 1 ti false) :: R)) (hn : n = cs.length) : Own O h (os e 1 (.slice (some ⟨i, 0, none⟩) n n) n cs :: R) :=
  k.os_mk (Nat.le_refl _) (by simp [hn]) (by simp [hn, List.take_of_length_le])
end Ab
end
