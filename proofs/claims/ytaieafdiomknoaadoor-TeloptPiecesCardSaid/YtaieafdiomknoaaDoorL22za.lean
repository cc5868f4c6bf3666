import Derived.Test.YtaieafdiomknoaaDoorL22z
open Go Ab Go.Proofs
namespace L22
set_option autoImplicit false
set_option linter.unusedSimpArgs false
set_option linter.unusedVariables false

/-- All frames of a list behind those of another. -/
theorem tels_app {O : Old} {h : AHeap} {R : List Chunk} {v w : Value} {fs gs : List Tl} (k : Own O h (tels v fs :: tels w gs :: R)) (hc : fs.length + gs.length ≤ 1000000000) :
    ∃ a' cap' h', appendW Tryd.prog h 33 33 v w = some (.slice a' (fs.length + gs.length) cap', h') ∧ Own O h' (tels (.slice a' (fs.length + gs.length) cap') (fs ++ gs) :: R) := by
  obtain ⟨ac, ha, k1⟩ := brecs_iff.1 k
  obtain ⟨bc, hb, k2⟩ := brecs_iff.1 ((k1.perm (L' := tels w gs :: (os 24 4 v fs.length (rcells pre fs ac).flatten :: (rbods 5 fs ac ++ R))) (by
    refine (List.Perm.cons _ List.perm_middle).trans ?_
    exact List.Perm.swap _ _ _)))
  have hlen : ((rcells pre gs bc).flatten).length = gs.length * 4 := by
    rw [flat_length (sz := 4) (rcells_all (pre := pre) (fun x => rfl) bc), rcells_length hb]
  have hok : (rcells pre gs bc).flatten.all okCell = true := by
    rw [List.all_eq_true]
    intro x hx
    obtain ⟨y, hy, hxy⟩ := List.mem_flatten.1 hx
    obtain ⟨m, hm⟩ := List.mem_iff_getElem?.1 hy
    simp only [rcells, List.getElem?_zipWith] at hm
    split at hm
    · obtain rfl := Option.some.inj hm
      simp [rec1, pre] at hxy
      rcases hxy with rfl | rfl | rfl | rfl <;> rfl
    · cases hm
  have sl := k2.os_sl
  obtain ⟨v', h', e1, k3⟩ := Own.app (P := Tryd.prog) (m := gs.length) (t := 33) (xt := 33) (xs := (rcells pre gs bc).flatten) (xv := w) Tryd.underlying33 tsz24 tby24 tz24 nI33 (by omega) (by omega) rfl (k2.tail.perm (L' := os 24 4 v fs.length (rcells pre fs ac).flatten :: (rbods 5 gs bc ++ (rbods 5 fs ac ++ R))) List.perm_middle) sl.src hlen hok (by omega)
  obtain ⟨a', cap', rfl⟩ := k3.os_val
  refine ⟨a', cap', h', e1, brecs_iff.2 ⟨ac ++ bc, by simp [ha, hb], ?_⟩⟩
  have q1 : rcells pre (fs ++ gs) (ac ++ bc) = rcells pre fs ac ++ rcells pre gs bc := by
    simp only [rcells]; rw [List.zipWith_append ha.symm]
  have q2 : rbods 5 (fs ++ gs) (ac ++ bc) = rbods 5 fs ac ++ rbods 5 gs bc := by
    simp only [rbods]; rw [List.zipWith_append ha.symm]
  rw [q1, q2, List.flatten_append, List.length_append]
  refine k3.perm (List.Perm.cons _ ?_)
  rw [← List.append_assoc]
  exact List.Perm.append_right R List.perm_append_comm
/-! ### Put together what was put together -/
theorem put_put (Z X : List Tl) (y : Tl) : (putStep Z y).foldl putStep X = putStep (Z.foldl putStep X) y := by
  rcases List.eq_nil_or_concat Z with rfl | ⟨Z', z, rfl⟩
  · rfl
  rw [List.concat_eq_append, putStep_append]
  split
  · rename_i h
    rw [List.foldl_append, List.foldl_append]
    simp only [List.foldl_cons, List.foldl_nil]
    generalize Z'.foldl putStep X = W
    rcases List.eq_nil_or_concat W with rfl | ⟨W', w, rfl⟩
    · have := putStep_append [] z y
      rw [if_pos h] at this
      simpa [putStep_nil] using this.symm
    · rw [List.concat_eq_append, putStep_append, putStep_append]
      by_cases hw : w.1.1 = 1
      · rw [if_pos ⟨h.2, hw⟩, if_pos ⟨h.2, hw⟩, putStep_append, if_pos ⟨h.1, hw⟩, List.append_assoc]
      · rw [if_neg (fun e => hw e.2), if_neg (fun e => hw e.2), putStep_append, if_pos h]
  · rw [List.foldl_append]; rfl
theorem put_fold : ∀ (Y Z X : List Tl), (Y.foldl putStep Z).foldl putStep X = Y.foldl putStep (Z.foldl putStep X)
  | [], Z, X => rfl
  | y :: Y, Z, X => by rw [List.foldl_cons, put_fold Y, put_put]; rfl
theorem put_putL (Y X : List Tl) : (putL Y).foldl putStep X = Y.foldl putStep X := put_fold Y [] X
theorem putL_app {A B : List Tl} : putL (putL A ++ putL B) = putL (A ++ B) := by
  rw [putL, List.foldl_append, put_putL, put_putL, ← List.foldl_append]; rfl
theorem putL_app2 {G A B : List Tl} (h : putL G = putL A) : putL (G ++ putL B) = putL (A ++ B) := by
  have e1 : putL (G ++ putL B) = B.foldl putStep (putL G) := by
    rw [putL, List.foldl_append, put_putL]; rfl
  rw [e1, h, putL, putL, List.foldl_append]
end L22
