import Derived.Test.YtjjocbijmhmdkaaL18s
open Go Ab Go.Proofs
namespace L18
set_option autoImplicit false
set_option linter.unusedSimpArgs false
set_option linter.unusedVariables false

/-! ### Two sides, and what each has written and read -/
structure PS where
  o : Nat → List Hf
  i : Nat → List Ot
  way : Nat → List Fr
  wr : Nat → List UInt8
  rd : Nat → List UInt8
  cl : Nat → Bool
structure Ad where
  ma : Nat → Nat
  wa : Nat → PA
  pw : Nat → PA
  pr : Nat → PA
def up {α : Type} (f : Nat → α) (k : Nat) (x : α) : Nat → α := fun j => if j = k then x else f j
theorem up_same {α : Type} (f : Nat → α) (k : Nat) (x : α) : up f k x k = x := by simp [up]
theorem up_ne {α : Type} (f : Nat → α) {k j : Nat} (x : α) (h : j ≠ k) : up f k x j = f j := by simp [up, h]
theorem up_up {α : Type} (f : Nat → α) (k : Nat) (x y : α) : up (up f k x) k y = up f k y := by
  funext j; simp only [up]; split <;> rfl
theorem up_self {α : Type} (f : Nat → α) (k : Nat) : up f k (f k) = f := by
  funext j; simp only [up]; split
  · rename_i h; rw [h]
  · rfl
def sl (p : PA) (n : Nat) : Value := .slice p.1 n p.2
def pcell (P : PS) (A : Ad) (j : Nat) : Value :=
  if j < 2 then .pointer (some ⟨A.ma j, 0, none⟩) else if j < 4 then sl (A.wa (j - 2)) (P.way (j - 2)).length else if j < 12 then sl (A.pw (j - 4)) (P.wr (j - 4)).length
  else if j < 20 then sl (A.pr (j - 12)) (P.rd (j - 12)).length else .bool (P.cl (j - 20))
def pcells (P : PS) (A : Ad) : List Value := (List.range 28).map (pcell P A)
abbrev prow (P : PS) (A : Ad) : AObj := .row (pcells P A) 58 28 true false
def psub (P : PS) (A : Ad) (j : Nat) : Chunk :=
  if j < 2 then mux (A.ma j) (P.o j) (P.i j) else if j < 4 then frs (sl (A.wa (j - 2)) (P.way (j - 2)).length) (P.way (j - 2)) else if j < 12 then ob 5 (sl (A.pw (j - 4)) (P.wr (j - 4)).length) (P.wr (j - 4))
  else ob 5 (sl (A.pr (j - 12)) (P.rd (j - 12)).length) (P.rd (j - 12))
def psubs (P : PS) (A : Ad) : List Chunk := (List.range 20).map (psub P A)
def pairc (b : Nat) (P : PS) : Chunk := ex fun A : Ad => star (cell b (prow P A) :: psubs P A)
theorem rmap_get {α : Type} (f : Nat → α) {n j : Nat} (h : j < n) : ((List.range n).map f)[j]? = some (f j) := by simp [h]
theorem rmap_set {α : Type} {f g : Nat → α} {n j : Nat} {x : α} (hj : j < n) (hx : g j = x) (hg : ∀ k, k < n → k ≠ j → g k = f k) : ((List.range n).map f).set j x = (List.range n).map g := by
  apply List.ext_getElem?
  intro m
  rw [List.getElem?_set]
  by_cases hm : m < n
  · rw [rmap_get f hm, rmap_get g hm]
    by_cases e : j = m
    · subst e; simp [hm, hx]
    · rw [if_neg e, hg m hm (Ne.symm e)]
  · rw [if_neg (by omega), List.getElem?_eq_none (by simp; omega), List.getElem?_eq_none (by simp; omega)]
section
variable {O : Old} {h : AHeap} {R : List Chunk} {b j : Nat} {P P' : PS} {A A' : Ad}
theorem pairc_iff : Own O h (pairc b P :: R) ↔ ∃ A, Own O h (cell b (prow P A) :: (psubs P A ++ R)) := by
  simp only [pairc, Own.ex_iff, Own.star_iff, List.cons_append]
theorem po_out (hj : j < 20) (k : Own O h (cell b (prow P A) :: (psubs P A ++ R))) : Own O h (psub P A j :: cell b (prow P A) :: ((psubs P A).eraseIdx j ++ R)) :=
  Own.out (rmap_get _ hj) k
theorem po_in {C : Chunk} (hj : j < 20) (hs : ∀ k, k < 20 → k ≠ j → psub P' A' k = psub P A k) (k : Own O h (psub P' A' j :: C :: ((psubs P A).eraseIdx j ++ R))) : Own O h (C :: (psubs P' A' ++ R)) := by
  have := Own.into (rmap_get (psub P A) hj) k
  rw [rmap_set hj rfl hs] at this
  exact this
theorem po_in2 {C B : Chunk} (hj : j < 20) (hs : ∀ k, k < 20 → k ≠ j → psub P' A' k = psub P A k) (k : Own O h (psub P' A' j :: C :: B :: ((psubs P A).eraseIdx j ++ R))) : Own O h (C :: (psubs P' A' ++ (B :: R))) :=
  po_in hj hs (k.perm (((List.perm_middle (l₁ := (psubs P A).eraseIdx j)).symm.cons _).cons _))
theorem p_len : (pcells P A).length = 28 := by simp [pcells]
theorem pc_m {s : Nat} (h : s < 2) : (pcells P A)[s]? = some (.pointer (some ⟨A.ma s, 0, none⟩)) := by
  rw [pcells, rmap_get _ (by omega), pcell, if_pos h]
theorem pc_way {s : Nat} (h : s < 2) : (pcells P A)[2 + s]? = some (.slice (A.wa s).1 (P.way s).length (A.wa s).2) := by
  rw [pcells, rmap_get _ (by omega), pcell, if_neg (by omega), if_pos (by omega), show 2 + s - 2 = s by omega]; rfl
theorem pc_wr {k : Nat} (h : k < 8) : (pcells P A)[4 + k]? = some (.slice (A.pw k).1 (P.wr k).length (A.pw k).2) := by
  rw [pcells, rmap_get _ (by omega), pcell, if_neg (by omega), if_neg (by omega), if_pos (by omega), show 4 + k - 4 = k by omega]; rfl
theorem pc_rd {k : Nat} (h : k < 8) : (pcells P A)[12 + k]? = some (.slice (A.pr k).1 (P.rd k).length (A.pr k).2) := by
  rw [pcells, rmap_get _ (by omega), pcell, if_neg (by omega), if_neg (by omega), if_neg (by omega), if_pos (by omega), show 12 + k - 12 = k by omega]; rfl
theorem pc_cl {k : Nat} (h : k < 8) : (pcells P A)[20 + k]? = some (.bool (P.cl k)) := by
  rw [pcells, rmap_get _ (by omega), pcell, if_neg (by omega), if_neg (by omega), if_neg (by omega), if_neg (by omega), show 20 + k - 20 = k by omega]
theorem ps_m {s : Nat} (h : s < 2) : psub P A s = mux (A.ma s) (P.o s) (P.i s) := by rw [psub, if_pos h]
theorem ps_way {s : Nat} (h : s < 2) : psub P A (2 + s) = frs (.slice (A.wa s).1 (P.way s).length (A.wa s).2) (P.way s) := by
  rw [psub, if_neg (by omega), if_pos (by omega), show 2 + s - 2 = s by omega]; rfl
theorem ps_wr {k : Nat} (h : k < 8) : psub P A (4 + k) = ob 5 (.slice (A.pw k).1 (P.wr k).length (A.pw k).2) (P.wr k) := by
  rw [psub, if_neg (by omega), if_neg (by omega), if_pos (by omega), show 4 + k - 4 = k by omega]; rfl
theorem ps_rd {k : Nat} (h : k < 8) : psub P A (12 + k) = ob 5 (.slice (A.pr k).1 (P.rd k).length (A.pr k).2) (P.rd k) := by
  rw [psub, if_neg (by omega), if_neg (by omega), if_neg (by omega), show 12 + k - 12 = k by omega]; rfl
/-- Cells that turn. -/
theorem pset_way {s : Nat} (h : s < 2) (W : List Fr) {a : Option Addr} {n cap : Nat} (hn : n = W.length) : (pcells P A).set (2 + s) (.slice a n cap) = pcells { P with way := up P.way s W } { A with wa := up A.wa s (a, cap) } := by
  subst hn
  refine rmap_set (by omega) ?_ fun k hk hks => ?_
  · simp only [pcell]
    rw [if_neg (by omega), if_pos (by omega), show 2 + s - 2 = s by omega, up_same, up_same]; rfl
  · simp only [pcell]
    by_cases h1 : k < 2
    · rw [if_pos h1, if_pos h1]
    · by_cases h2 : k < 4
      · rw [if_neg h1, if_neg h1, if_pos h2, if_pos h2, up_ne _ _ (by omega), up_ne _ _ (by omega)]
      · simp only [if_neg h1, if_neg h2]
theorem pset_wr {i : Nat} (h : i < 8) (W : List UInt8) {a : Option Addr} {n cap : Nat} (hn : n = W.length) : (pcells P A).set (4 + i) (.slice a n cap) = pcells { P with wr := up P.wr i W } { A with pw := up A.pw i (a, cap) } := by
  subst hn
  refine rmap_set (by omega) ?_ fun k hk hks => ?_
  · simp only [pcell]
    rw [if_neg (by omega), if_neg (by omega), if_pos (by omega), show 4 + i - 4 = i by omega, up_same, up_same]; rfl
  · simp only [pcell]
    by_cases h1 : k < 2
    · rw [if_pos h1, if_pos h1]
    · by_cases h2 : k < 4
      · simp only [if_neg h1, if_pos h2]
      · by_cases h3 : k < 12
        · simp only [if_neg h1, if_neg h2, if_pos h3]
          rw [up_ne _ _ (by omega), up_ne _ _ (by omega)]
        · simp only [if_neg h1, if_neg h2, if_neg h3]
theorem pset_rd {i : Nat} (h : i < 8) (W : List UInt8) {a : Option Addr} {n cap : Nat} (hn : n = W.length) : (pcells P A).set (12 + i) (.slice a n cap) = pcells { P with rd := up P.rd i W } { A with pr := up A.pr i (a, cap) } := by
  subst hn
  refine rmap_set (by omega) ?_ fun k hk hks => ?_
  · simp only [pcell]
    rw [if_neg (by omega), if_neg (by omega), if_neg (by omega), if_pos (by omega), show 12 + i - 12 = i by omega, up_same, up_same]; rfl
  · simp only [pcell]
    by_cases h1 : k < 2
    · rw [if_pos h1, if_pos h1]
    · by_cases h2 : k < 4
      · simp only [if_neg h1, if_pos h2]
      · by_cases h3 : k < 12
        · simp only [if_neg h1, if_neg h2, if_pos h3]
        · by_cases h4 : k < 20
          · simp only [if_neg h1, if_neg h2, if_neg h3, if_pos h4]
            rw [up_ne _ _ (by omega), up_ne _ _ (by omega)]
          · simp only [if_neg h1, if_neg h2, if_neg h3, if_neg h4]
theorem pset_cl {i : Nat} (h : i < 8) (x : Bool) : (pcells P A).set (20 + i) (.bool x) = pcells { P with cl := up P.cl i x } A := by
  refine rmap_set (by omega) ?_ fun k hk hks => ?_
  · simp only [pcell]
    rw [if_neg (by omega), if_neg (by omega), if_neg (by omega), if_neg (by omega), show 20 + i - 20 = i by omega, up_same]
  · simp only [pcell]
    by_cases h1 : k < 2
    · rw [if_pos h1, if_pos h1]
    · by_cases h2 : k < 4
      · simp only [if_neg h1, if_pos h2]
      · by_cases h3 : k < 12
        · simp only [if_neg h1, if_neg h2, if_pos h3]
        · by_cases h4 : k < 20
          · simp only [if_neg h1, if_neg h2, if_neg h3, if_pos h4]
          · simp only [if_neg h1, if_neg h2, if_neg h3, if_neg h4]
            rw [up_ne _ _ (by omega)]
/-- Pieces that stay. -/
theorem pk_m {s : Nat} (hs : s < 2) (x : List Hf) (y : List Ot) : ∀ k, k < 20 → k ≠ s → psub { P with o := up P.o s x, i := up P.i s y } A k = psub P A k := fun k _ hk => by
  simp only [psub]
  by_cases h1 : k < 2
  · rw [if_pos h1, if_pos h1, up_ne _ _ hk, up_ne _ _ hk]
  · simp only [if_neg h1]
theorem pk_way {s : Nat} (hs : s < 2) (W : List Fr) (p : PA) : ∀ k, k < 20 → k ≠ 2 + s → psub { P with way := up P.way s W } { A with wa := up A.wa s p } k = psub P A k := fun k _ hk => by
  simp only [psub]
  by_cases h1 : k < 2
  · simp only [if_pos h1]
  · by_cases h2 : k < 4
    · simp only [if_neg h1, if_pos h2]; rw [up_ne _ _ (by omega), up_ne _ _ (by omega)]
    · simp only [if_neg h1, if_neg h2]
theorem pk_wr {i : Nat} (hs : i < 8) (W : List UInt8) (p : PA) : ∀ k, k < 20 → k ≠ 4 + i → psub { P with wr := up P.wr i W } { A with pw := up A.pw i p } k = psub P A k := fun k _ hk => by
  simp only [psub]
  by_cases h1 : k < 2
  · simp only [if_pos h1]
  · by_cases h2 : k < 4
    · simp only [if_neg h1, if_pos h2]
    · by_cases h3 : k < 12
      · simp only [if_neg h1, if_neg h2, if_pos h3]; rw [up_ne _ _ (by omega), up_ne _ _ (by omega)]
      · simp only [if_neg h1, if_neg h2, if_neg h3]
theorem pk_rd {i : Nat} (hs : i < 8) (W : List UInt8) (p : PA) : ∀ k, k < 20 → k ≠ 12 + i → psub { P with rd := up P.rd i W } { A with pr := up A.pr i p } k = psub P A k := fun k _ hk => by
  simp only [psub]
  by_cases h1 : k < 2
  · simp only [if_pos h1]
  · by_cases h2 : k < 4
    · simp only [if_neg h1, if_pos h2]
    · by_cases h3 : k < 12
      · simp only [if_neg h1, if_neg h2, if_pos h3]
      · simp only [if_neg h1, if_neg h2, if_neg h3]; rw [up_ne _ _ (by omega), up_ne _ _ (by omega)]
/-- A side, out and back. -/
theorem po_outM {s : Nat} (hs : s < 2) (k : Own O h (cell b (prow P A) :: (psubs P A ++ R))) : Own O h (mux (A.ma s) (P.o s) (P.i s) :: cell b (prow P A) :: ((psubs P A).eraseIdx s ++ R)) := by
  have := po_out (j := s) (by omega) k
  rw [ps_m hs] at this; exact this
theorem po_inM {s : Nat} (hs : s < 2) (x : List Hf) (y : List Ot) (k : Own O h (mux (A.ma s) x y :: cell b (prow P A) :: ((psubs P A).eraseIdx s ++ R))) : Own O h (cell b (prow { P with o := up P.o s x, i := up P.i s y } A) :: (psubs { P with o := up P.o s x, i := up P.i s y } A ++ R)) := by
  refine po_in (j := s) (P := P) (by omega) (pk_m hs x y) ?_
  rw [ps_m hs]
  simp only [up_same]
  exact k
theorem po_inM2 {s : Nat} {B : Chunk} (hs : s < 2) (x : List Hf) (y : List Ot) (k : Own O h (mux (A.ma s) x y :: cell b (prow P A) :: B :: ((psubs P A).eraseIdx s ++ R))) : Own O h (cell b (prow { P with o := up P.o s x, i := up P.i s y } A) :: (psubs { P with o := up P.o s x, i := up P.i s y } A ++ (B :: R))) :=
  po_inM hs x y (k.perm (((List.perm_middle (l₁ := (psubs P A).eraseIdx s)).symm.cons _).cons _))
end
end L18
