import Derived.Test.YtjjocbijmhmdkaaL18T
import Derived.Test.YtjjocbijmhmdkaaAbLibE
open Go Ab Go.Proofs
namespace L18
set_option autoImplicit false
set_option linter.unusedSimpArgs false
set_option linter.unusedVariables false

/-! ### A side: four halves that go out, four that come in -/
structure Hf where
  wait : List UInt8
  credit : Int
  closed : Bool
  told : Bool
structure Ot where
  come : List UInt8
  room : Int
  untold : Int
  ended : Bool
abbrev PA := Option Addr × Nat
def hcell (x : Hf) (p : PA) : List Value := [.slice p.1 x.wait.length p.2, .int .i64 x.credit, .bool x.closed, .bool x.told]
def ocell (x : Ot) (p : PA) : List Value := [.slice p.1 x.come.length p.2, .int .i64 x.room, .int .i64 x.untold, .bool x.ended]
def hsub (x : Hf) (p : PA) : Chunk := ob 5 (.slice p.1 x.wait.length p.2) x.wait
def osub (x : Ot) (p : PA) : Chunk := ob 5 (.slice p.1 x.come.length p.2) x.come
def mcells (o : List Hf) (ws : List PA) (i : List Ot) (us : List PA) : List Value := (List.zipWith hcell o ws).flatten ++ (List.zipWith ocell i us).flatten

theorem flat_set {α : Type} {sz : Nat} : ∀ {l : List (List α)} {j f : Nat} {v : α}, (∀ x ∈ l, x.length = sz) → f < sz → (hj : j < l.length) → l.flatten.set (j * sz + f) v = (l.set j (l[j].set f v)).flatten
  | [], j, f, v, _, _, hj => by cases hj
  | x :: l, 0, f, v, h, hf, _ => by
    have hx := h x (by simp)
    simp only [List.flatten_cons, Nat.zero_mul, Nat.zero_add, List.set_cons_zero, List.getElem_cons_zero]
    rw [List.set_append_left _ _ (by omega)]
  | x :: l, j + 1, f, v, h, hf, hj => by
    have hx := h x (by simp)
    have ih := flat_set (l := l) (j := j) (v := v) (fun y hy => h y (by simp [hy])) hf (by simpa using hj)
    simp only [List.flatten_cons, List.set_cons_succ, List.getElem_cons_succ]
    rw [List.set_append_right _ _ (by rw [hx, Nat.succ_mul]; omega), ← ih]
    congr 1
    congr 1
    rw [hx, Nat.succ_mul]; omega

section
variable {o : List Hf} {ws us : List PA} {i : List Ot}
structure Four (o : List Hf) (ws : List PA) (i : List Ot) (us : List PA) : Prop where
  o : o.length = 4
  w : ws.length = 4
  i : i.length = 4
  u : us.length = 4
theorem h_all : ∀ y ∈ List.zipWith hcell o ws, y.length = 4 := by
  intro y hy
  obtain ⟨m, hm⟩ := List.mem_iff_getElem?.1 hy
  rw [List.getElem?_zipWith] at hm
  split at hm
  · obtain rfl := Option.some.inj hm; rfl
  · cases hm
theorem o_all : ∀ y ∈ List.zipWith ocell i us, y.length = 4 := by
  intro y hy
  obtain ⟨m, hm⟩ := List.mem_iff_getElem?.1 hy
  rw [List.getElem?_zipWith] at hm
  split at hm
  · obtain rfl := Option.some.inj hm; rfl
  · cases hm
theorem h_len (k : Four o ws i us) : (List.zipWith hcell o ws).flatten.length = 16 := by
  rw [flat_length h_all]; simp [k.o, k.w]
theorem o_len (k : Four o ws i us) : (List.zipWith ocell i us).flatten.length = 16 := by
  rw [flat_length o_all]; simp [k.i, k.u]
theorem m_len (k : Four o ws i us) : (mcells o ws i us).length = 32 := by
  rw [mcells, List.length_append, h_len k, o_len k]
theorem m_getO (k : Four o ws i us) {c f : Nat} (hc : c < 4) (hf : f < 4) : (mcells o ws i us)[c * 4 + f]? = (hcell (o[c]'(by rw [k.o]; exact hc)) (ws[c]'(by rw [k.w]; exact hc)))[f]? := by
  rw [mcells, List.getElem?_append_left (by rw [h_len k]; omega), flat_get h_all hf, List.getElem?_zipWith, List.getElem?_eq_getElem (by rw [k.o]; exact hc), List.getElem?_eq_getElem (by rw [k.w]; exact hc)]
  rfl
theorem m_getI (k : Four o ws i us) {c f : Nat} (hc : c < 4) (hf : f < 4) : (mcells o ws i us)[16 + c * 4 + f]? = (ocell (i[c]'(by rw [k.i]; exact hc)) (us[c]'(by rw [k.u]; exact hc)))[f]? := by
  rw [mcells, List.getElem?_append_right (by rw [h_len k]; omega), h_len k, show 16 + c * 4 + f - 16 = c * 4 + f by omega, flat_get o_all hf, List.getElem?_zipWith, List.getElem?_eq_getElem (by rw [k.i]; exact hc), List.getElem?_eq_getElem (by rw [k.u]; exact hc)]
  rfl
theorem m_setO (k : Four o ws i us) {c f : Nat} (hc : c < 4) (hf : f < 4) {v : Value} {x : Hf} {p : PA} (e : (hcell (o[c]'(by rw [k.o]; exact hc)) (ws[c]'(by rw [k.w]; exact hc))).set f v = hcell x p) : (mcells o ws i us).set (c * 4 + f) v = mcells (o.set c x) (ws.set c p) i us := by
  have hz : c < (List.zipWith hcell o ws).length := by simp [k.o, k.w, hc]
  rw [mcells, List.set_append_left _ _ (by rw [h_len k]; omega), flat_set h_all hf hz, List.getElem_zipWith, e, mcells]
  congr 2
  apply List.ext_getElem?
  intro m
  rw [List.getElem?_set, List.getElem?_zipWith, List.getElem?_zipWith, List.getElem?_set, List.getElem?_set]
  by_cases hm : c = m
  · subst hm; simp [k.o, k.w, hc]
  · simp [hm]
theorem m_setI (k : Four o ws i us) {c f : Nat} (hc : c < 4) (hf : f < 4) {v : Value} {x : Ot} {p : PA} (e : (ocell (i[c]'(by rw [k.i]; exact hc)) (us[c]'(by rw [k.u]; exact hc))).set f v = ocell x p) : (mcells o ws i us).set (16 + c * 4 + f) v = mcells o ws (i.set c x) (us.set c p) := by
  have hz : c < (List.zipWith ocell i us).length := by simp [k.i, k.u, hc]
  rw [mcells, List.set_append_right _ _ (by rw [h_len k]; omega), h_len k, show 16 + c * 4 + f - 16 = c * 4 + f by omega, flat_set o_all hf hz, List.getElem_zipWith, e, mcells]
  congr 2
  apply List.ext_getElem?
  intro m
  rw [List.getElem?_set, List.getElem?_zipWith, List.getElem?_zipWith, List.getElem?_set, List.getElem?_set]
  by_cases hm : c = m
  · subst hm; simp [k.i, k.u, hc]
  · simp [hm]
end
end L18
