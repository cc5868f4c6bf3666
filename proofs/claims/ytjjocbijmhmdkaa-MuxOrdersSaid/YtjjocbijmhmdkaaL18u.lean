import Derived.Test.YtjjocbijmhmdkaaL18r
open Go Ab Go.Proofs
namespace L18
set_option autoImplicit false
set_option linter.unusedSimpArgs false
set_option linter.unusedVariables false

/-! ### The document's side on the heap -/
structure Dc where
  w : List UInt8
  s : Nat
  closed : Bool
  told : Bool
  c : List UInt8
  r : Nat
  sd : Nat
  cr : Int
  ended : Bool
abbrev PP := PA × PA
def dcell (x : Dc) (p : PP) : List Value := [.slice p.1.1 x.w.length p.1.2, .int .i64 x.s, .bool x.closed, .bool x.told, .slice p.2.1 x.c.length p.2.2, .int .i64 x.r, .int .i64 x.sd, .int .i64 x.cr, .bool x.ended]
def dcells (D : List Dc) (ps : List PP) : List Value := (gcells dcell D ps).flatten
abbrev drow (D : List Dc) (ps : List PP) : AObj := .row (dcells D ps) 79 36 true false
def dz : Dc := ⟨[], 0, false, false, [], 0, 0, 0, false⟩
def dg (D : List Dc) (c : Nat) : Dc := D[c]?.getD dz
def qg (ps : List PP) (c : Nat) : PP := ps[c]?.getD ((none, 0), (none, 0))
structure Fr4 (D : List Dc) (ps : List PP) : Prop where
  d : D.length = 4
  p : ps.length = 4
section
variable {D : List Dc} {ps : List PP} {c : Nat}
theorem dg_eq (h : c < D.length) : D[c] = dg D c := by simp [dg, h]
theorem qg_eq (h : c < ps.length) : ps[c] = qg ps c := by simp [qg, h]
theorem dg_set {x : Dc} (h : c < D.length) : dg (D.set c x) c = x := by simp [dg, h]
theorem dg_ne {x : Dc} {d : Nat} (h : d ≠ c) : dg (D.set c x) d = dg D d := by simp [dg, List.getElem?_set, Ne.symm h]
theorem qg_set {p : PP} (h : c < ps.length) : qg (ps.set c p) c = p := by simp [qg, h]
theorem qset (hc : c < ps.length) : ps.set c (qg ps c) = ps := by rw [← qg_eq hc, List.set_getElem_self]
theorem dset (hc : c < D.length) : D.set c (dg D c) = D := by rw [← dg_eq hc, List.set_getElem_self]
theorem d_all : ∀ y ∈ gcells dcell D ps, y.length = 9 := gcells_all (fun _ _ => rfl)
theorem d_len (k : Fr4 D ps) : (dcells D ps).length = 36 := by
  rw [dcells, flat_length d_all, gcells_length (by rw [k.p, k.d]), k.d]
theorem d_o (k : Fr4 D ps) {f : Nat} (hc : c < 4) (hf : f < 9) : (dcells D ps)[c * 9 + f]? = (dcell (dg D c) (qg ps c))[f]? := by
  rw [dcells, flat_get d_all hf, gcells, List.getElem?_zipWith, List.getElem?_eq_getElem (by rw [k.d]; exact hc), List.getElem?_eq_getElem (by rw [k.p]; exact hc), dg_eq, qg_eq]
  rfl
theorem d_set (k : Fr4 D ps) {f : Nat} (hc : c < 4) (hf : f < 9) {v : Value} {x : Dc} {p : PP} (e : (dcell (dg D c) (qg ps c)).set f v = dcell x p) : (dcells D ps).set (c * 9 + f) v = dcells (D.set c x) (ps.set c p) := by
  have hz : c < (gcells dcell D ps).length := by rw [gcells_length (by rw [k.p, k.d]), k.d]; exact hc
  have he : (gcells dcell D ps)[c] = dcell (dg D c) (qg ps c) := by
    simp only [gcells, List.getElem_zipWith]
    rw [dg_eq, qg_eq]
  rw [dcells, flat_set d_all hf hz, he, e, dcells]
  congr 1
  apply List.ext_getElem?
  intro m
  rw [List.getElem?_set, gcells, gcells, List.getElem?_zipWith, List.getElem?_zipWith, List.getElem?_set, List.getElem?_set]
  by_cases hm : c = m
  · subst hm; simp [k.d, k.p, hc]
  · simp [hm]
structure FD (D : List Dc) (ps : List PP) (c : Nat) : Prop where
  b : c * 9 + 9 ≤ 36 ∧ c * 9 ≤ 35 ∧ c * 9 ≤ 34 ∧ c * 9 ≤ 33 ∧ c * 9 ≤ 32 ∧ c * 9 ≤ 31 ∧ c * 9 ≤ 30 ∧ c * 9 ≤ 29 ∧ c * 9 ≤ 28 ∧ c * 9 ≤ 27
  d0 : (dcells D ps)[c * 9]? = some (.slice (qg ps c).1.1 (dg D c).w.length (qg ps c).1.2)
  d1 : (dcells D ps)[c * 9 + 1]? = some (.int .i64 (dg D c).s)
  d2 : (dcells D ps)[c * 9 + 2]? = some (.bool (dg D c).closed)
  d3 : (dcells D ps)[c * 9 + 3]? = some (.bool (dg D c).told)
  d4 : (dcells D ps)[c * 9 + 4]? = some (.slice (qg ps c).2.1 (dg D c).c.length (qg ps c).2.2)
  d5 : (dcells D ps)[c * 9 + 5]? = some (.int .i64 (dg D c).r)
  d6 : (dcells D ps)[c * 9 + 6]? = some (.int .i64 (dg D c).sd)
  d7 : (dcells D ps)[c * 9 + 7]? = some (.int .i64 (dg D c).cr)
  d8 : (dcells D ps)[c * 9 + 8]? = some (.bool (dg D c).ended)
theorem Fr4.fd (k : Fr4 D ps) (hc : c < 4) : FD D ps c :=
  ⟨by omega, d_o k hc (f := 0) (by omega), d_o k hc (f := 1) (by omega), d_o k hc (f := 2) (by omega), d_o k hc (f := 3) (by omega), d_o k hc (f := 4) (by omega), d_o k hc (f := 5) (by omega), d_o k hc (f := 6) (by omega), d_o k hc (f := 7) (by omega), d_o k hc (f := 8) (by omega)⟩
theorem Fr4.set (k : Fr4 D ps) (x : Dc) (p : PP) : Fr4 (D.set c x) (ps.set c p) := ⟨by simp [k.d], by simp [k.p]⟩
theorem Fr4.setD (k : Fr4 D ps) (x : Dc) : Fr4 (D.set c x) ps := ⟨by simp [k.d], k.p⟩
theorem sd0 (k : Fr4 D ps) (hc : c < 4) (w : List UInt8) {a : Option Addr} {n cap : Nat} (hn : n = w.length) : (dcells D ps).set (c * 9) (.slice a n cap) = dcells (D.set c { dg D c with w := w }) (ps.set c ((a, cap), (qg ps c).2)) := by
  subst hn; exact d_set k hc (f := 0) (by omega) rfl
theorem sd4 (k : Fr4 D ps) (hc : c < 4) (w : List UInt8) {a : Option Addr} {n cap : Nat} (hn : n = w.length) : (dcells D ps).set (c * 9 + 4) (.slice a n cap) = dcells (D.set c { dg D c with c := w }) (ps.set c ((qg ps c).1, (a, cap))) := by
  subst hn; exact d_set k hc (f := 4) (by omega) rfl
theorem sdx (k : Fr4 D ps) (hc : c < 4) {f : Nat} (hf : f < 9) {v : Value} {x : Dc} (e : (dcell (dg D c) (qg ps c)).set f v = dcell x (qg ps c)) : (dcells D ps).set (c * 9 + f) v = dcells (D.set c x) ps := by
  rw [d_set k hc hf e, qset (by rw [k.p]; exact hc)]
theorem sd1 (k : Fr4 D ps) (hc : c < 4) (n : Nat) : (dcells D ps).set (c * 9 + 1) (.int .i64 n) = dcells (D.set c { dg D c with s := n }) ps := sdx k hc (f := 1) (by omega) rfl
theorem sd2 (k : Fr4 D ps) (hc : c < 4) (n : Bool) : (dcells D ps).set (c * 9 + 2) (.bool n) = dcells (D.set c { dg D c with closed := n }) ps := sdx k hc (f := 2) (by omega) rfl
theorem sd3 (k : Fr4 D ps) (hc : c < 4) (n : Bool) : (dcells D ps).set (c * 9 + 3) (.bool n) = dcells (D.set c { dg D c with told := n }) ps := sdx k hc (f := 3) (by omega) rfl
theorem sd5 (k : Fr4 D ps) (hc : c < 4) (n : Nat) : (dcells D ps).set (c * 9 + 5) (.int .i64 n) = dcells (D.set c { dg D c with r := n }) ps := sdx k hc (f := 5) (by omega) rfl
theorem sd6 (k : Fr4 D ps) (hc : c < 4) (n : Nat) : (dcells D ps).set (c * 9 + 6) (.int .i64 n) = dcells (D.set c { dg D c with sd := n }) ps := sdx k hc (f := 6) (by omega) rfl
theorem sd7 (k : Fr4 D ps) (hc : c < 4) (n : Int) : (dcells D ps).set (c * 9 + 7) (.int .i64 n) = dcells (D.set c { dg D c with cr := n }) ps := sdx k hc (f := 7) (by omega) rfl
theorem sd8 (k : Fr4 D ps) (hc : c < 4) (n : Bool) : (dcells D ps).set (c * 9 + 8) (.bool n) = dcells (D.set c { dg D c with ended := n }) ps := sdx k hc (f := 8) (by omega) rfl
end

/-! ### Its bytes -/
def dsub (x : Dc) (p : PP) : Chunk := star [ob 5 (.slice p.1.1 x.w.length p.1.2) x.w, ob 5 (.slice p.2.1 x.c.length p.2.2) x.c]
def dmux (b : Nat) (D : List Dc) : Chunk := ex fun ps : List PP => pur (Fr4 D ps) (star (cell b (drow D ps) :: gsubs dsub D ps))
section
variable {O : Old} {h : AHeap} {R : List Chunk} {b c : Nat} {D : List Dc} {ps : List PP}
theorem dmux_iff : Own O h (dmux b D :: R) ↔ ∃ ps, Fr4 D ps ∧ Own O h (cell b (drow D ps) :: (gsubs dsub D ps ++ R)) := by
  simp only [dmux, Own.ex_iff, Own.pur_iff, Own.star_iff, List.cons_append]
theorem ds_get (k : Fr4 D ps) (hc : c < 4) : (gsubs dsub D ps)[c]? = some (dsub (dg D c) (qg ps c)) := by
  rw [gsubs, List.getElem?_zipWith, List.getElem?_eq_getElem (by rw [k.d]; exact hc), List.getElem?_eq_getElem (by rw [k.p]; exact hc), dg_eq, qg_eq]
theorem ds_set (k : Fr4 D ps) (hc : c < 4) (x : Dc) (p : PP) : (gsubs dsub D ps).set c (dsub x p) = gsubs dsub (D.set c x) (ps.set c p) := by
  apply List.ext_getElem?
  intro m
  rw [List.getElem?_set, gsubs, gsubs, List.getElem?_zipWith, List.getElem?_zipWith, List.getElem?_set, List.getElem?_set]
  by_cases hm : c = m
  · subst hm; simp [k.d, k.p, hc]
  · simp [hm]
theorem ds_same (k : Fr4 D ps) (hc : c < 4) (x : Dc) (hw : x.w = (dg D c).w) (hcc : x.c = (dg D c).c) : gsubs dsub (D.set c x) ps = gsubs dsub D ps := by
  have h1 := ds_set k hc x (qg ps c)
  rw [qset (by rw [k.p]; exact hc)] at h1
  rw [← h1]
  have : dsub x (qg ps c) = dsub (dg D c) (qg ps c) := by simp only [dsub, hw, hcc]
  rw [this]
  apply List.ext_getElem?
  intro m
  rw [List.getElem?_set]
  by_cases hm : c = m
  · subst hm; rw [ds_get k hc, gsubs_length (by rw [k.p, k.d]), k.d]; simp [hc]
  · simp [hm]
/-- One channel's bytes, out of the list and back. -/
theorem dmux_out (hc : c < 4) (k : Own O h (dmux b D :: R)) : ∃ ps, Fr4 D ps ∧ Own O h (ob 5 (.slice (qg ps c).1.1 (dg D c).w.length (qg ps c).1.2) (dg D c).w :: ob 5 (.slice (qg ps c).2.1 (dg D c).c.length (qg ps c).2.2) (dg D c).c :: cell b (drow D ps) :: ((gsubs dsub D ps).eraseIdx c ++ R)) := by
  obtain ⟨ps, k4, kt⟩ := dmux_iff.1 k
  exact ⟨ps, k4, Own.star_iff.1 (Own.out (ds_get k4 hc) kt)⟩
theorem dmux_in (hc : c < 4) (k4 : Fr4 D ps) (x : Dc) (p : PP) (k : Own O h (ob 5 (.slice p.1.1 x.w.length p.1.2) x.w :: ob 5 (.slice p.2.1 x.c.length p.2.2) x.c :: cell b (drow (D.set c x) (ps.set c p)) :: ((gsubs dsub D ps).eraseIdx c ++ R))) : Own O h (dmux b (D.set c x) :: R) := by
  have k2 : Own O h (dsub x p :: cell b (drow (D.set c x) (ps.set c p)) :: ((gsubs dsub D ps).eraseIdx c ++ R)) := Own.star_iff.2 k
  have := Own.into (ds_get k4 hc) k2
  rw [ds_set k4 hc] at this
  exact dmux_iff.2 ⟨_, k4.set x p, this⟩
theorem dmux_in2 {A : Chunk} (hc : c < 4) (k4 : Fr4 D ps) (x : Dc) (p : PP) (k : Own O h (ob 5 (.slice p.1.1 x.w.length p.1.2) x.w :: ob 5 (.slice p.2.1 x.c.length p.2.2) x.c :: cell b (drow (D.set c x) (ps.set c p)) :: A :: ((gsubs dsub D ps).eraseIdx c ++ R))) : Own O h (dmux b (D.set c x) :: A :: R) :=
  dmux_in hc k4 x p (k.perm (((List.perm_middle (l₁ := (gsubs dsub D ps).eraseIdx c)).symm.cons _).cons _ |>.cons _))
theorem dmux_in' (hc : c < 4) (k4 : Fr4 D ps) (x : Dc) (hw : x.w = (dg D c).w) (hcc : x.c = (dg D c).c) (k : Own O h (cell b (drow (D.set c x) ps) :: (gsubs dsub D ps ++ R))) : Own O h (dmux b (D.set c x) :: R) := by
  rw [← ds_same k4 hc x hw hcc] at k
  exact dmux_iff.2 ⟨_, k4.setD x, k⟩
end
end L18
