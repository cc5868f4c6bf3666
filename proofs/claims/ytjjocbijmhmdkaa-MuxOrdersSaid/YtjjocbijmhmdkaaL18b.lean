import Derived.Test.YtjjocbijmhmdkaaL18a
open Go Ab Go.Proofs
namespace L18
set_option autoImplicit false
set_option linter.unusedSimpArgs false
set_option linter.unusedVariables false

/-! ### A side on the heap -/
def hs (o : List Hf) (ws : List PA) : List Chunk := List.zipWith hsub o ws
def os_ (i : List Ot) (us : List PA) : List Chunk := List.zipWith osub i us
abbrev mrow (o : List Hf) (ws : List PA) (i : List Ot) (us : List PA) : AObj := .row (mcells o ws i us) 69 32 true false
def mux (b : Nat) (o : List Hf) (i : List Ot) : Chunk := ex fun q : List PA × List PA => pur (Four o q.1 i q.2) (star (cell b (mrow o q.1 i q.2) :: (hs o q.1 ++ os_ i q.2)))
section
variable {O : Old} {h : AHeap} {R : List Chunk} {b c : Nat} {o : List Hf} {ws us : List PA} {i : List Ot}
theorem mux_iff : Own O h (mux b o i :: R) ↔ ∃ ws us, Four o ws i us ∧ Own O h (cell b (mrow o ws i us) :: (hs o ws ++ (os_ i us ++ R))) := by
  simp only [mux, Own.ex_iff, Own.pur_iff, Own.star_iff, List.cons_append, List.append_assoc]
  exact ⟨fun ⟨q, k⟩ => ⟨q.1, q.2, k⟩, fun ⟨a, c, k⟩ => ⟨(a, c), k⟩⟩

theorem Own.out {C : Chunk} {L : List Chunk} {j : Nat} {A : Chunk} (hj : L[j]? = some A) (k : Own O h (C :: (L ++ R))) : Own O h (A :: C :: (L.eraseIdx j ++ R)) := by
  have k1 : Own O h (L ++ (C :: R)) := k.perm (List.perm_middle.symm)
  have k2 := k1.mem hj
  exact k2.perm (List.Perm.cons _ (List.perm_middle))
theorem Own.into {C : Chunk} {L : List Chunk} {j : Nat} {A A' : Chunk} (hj : L[j]? = some A) (k : Own O h (A' :: C :: (L.eraseIdx j ++ R))) : Own O h (C :: (L.set j A' ++ R)) := by
  have k1 : Own O h (A' :: (L.eraseIdx j ++ (C :: R))) := k.perm (List.Perm.cons _ (List.perm_middle.symm))
  exact (Own.mem_back hj k1).perm List.perm_middle
theorem hs_get (k : Four o ws i us) (hc : c < 4) : (hs o ws)[c]? = some (hsub (o[c]'(by rw [k.o]; exact hc)) (ws[c]'(by rw [k.w]; exact hc))) := by
  rw [hs, List.getElem?_zipWith, List.getElem?_eq_getElem (by rw [k.o]; exact hc), List.getElem?_eq_getElem (by rw [k.w]; exact hc)]
theorem os_get (k : Four o ws i us) (hc : c < 4) : (os_ i us)[c]? = some (osub (i[c]'(by rw [k.i]; exact hc)) (us[c]'(by rw [k.u]; exact hc))) := by
  rw [os_, List.getElem?_zipWith, List.getElem?_eq_getElem (by rw [k.i]; exact hc), List.getElem?_eq_getElem (by rw [k.u]; exact hc)]
theorem hs_set (k : Four o ws i us) (hc : c < 4) (x : Hf) (p : PA) : (hs o ws).set c (hsub x p) = hs (o.set c x) (ws.set c p) := by
  apply List.ext_getElem?
  intro m
  rw [List.getElem?_set, hs, hs, List.getElem?_zipWith, List.getElem?_zipWith, List.getElem?_set, List.getElem?_set]
  by_cases hm : c = m
  · subst hm; simp [k.o, k.w, hc]
  · simp [hm]
theorem os_set (k : Four o ws i us) (hc : c < 4) (x : Ot) (p : PA) : (os_ i us).set c (osub x p) = os_ (i.set c x) (us.set c p) := by
  apply List.ext_getElem?
  intro m
  rw [List.getElem?_set, os_, os_, List.getElem?_zipWith, List.getElem?_zipWith, List.getElem?_set, List.getElem?_set]
  by_cases hm : c = m
  · subst hm; simp [k.i, k.u, hc]
  · simp [hm]
theorem Four.setO (k : Four o ws i us) (x : Hf) (p : PA) : Four (o.set c x) (ws.set c p) i us := ⟨by simp [k.o], by simp [k.w], k.i, k.u⟩
theorem Four.setI (k : Four o ws i us) (x : Ot) (p : PA) : Four o ws (i.set c x) (us.set c p) := ⟨k.o, k.w, by simp [k.i], by simp [k.u]⟩
end
end L18
