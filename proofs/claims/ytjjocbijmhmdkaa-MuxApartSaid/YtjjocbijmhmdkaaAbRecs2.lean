import Derived.Test.YtjjocbijmhmdkaaAbRecs
namespace Ab
open Go
set_option autoImplicit false
set_option linter.unusedVariables false
set_option linter.unusedSimpArgs false

/-- A piece of a slice that is read. -/
theorem Sl.piece {P : Program} {h : AHeap} {sz n : Nat} {v : Value} {cs : List Value} (k : Sl sz h v n cs) {t e : TypeId} (ht : P.underlying t = some (.slice e)) (hs : tsz P e = some sz) {lo hi : Nat} (h1 : lo ≤ hi) (h2 : hi ≤ n)
    {l u : Option Value} (hl : (l = none ∧ lo = 0) ∨ ∃ kd, l = some (.int kd lo)) (hu : (u = none ∧ hi = n) ∨ ∃ kd, u = some (.int kd hi)) :
    sliceR P h t v l u none = some (sliceV sz lo hi v) ∧ Sl sz h (sliceV sz lo hi v) (hi - lo) ((cs.drop (lo * sz)).take ((hi - lo) * sz)) := by
  rcases k with ⟨rfl, rfl, rfl⟩ | ⟨i, off, cap, c, e', esz, ti, ro, rfl, h3, h4, h5, h6, h7, rfl⟩
  · obtain rfl : hi = 0 := by omega
    obtain rfl : lo = 0 := by omega
    refine ⟨?_, .inl ⟨rfl, by simp, by simp⟩⟩
    rcases hl with ⟨rfl, _⟩ | ⟨kd, rfl⟩ <;> rcases hu with ⟨rfl, _⟩ | ⟨kd', rfl⟩ <;> simp [sliceR, ht, hs, bnds, sb, sliceV]
  · have hb : bnds n cap l u none = some (lo, hi, cap) := by
      have hc : hi ≤ cap := by omega
      rcases hl with ⟨rfl, hl⟩ | ⟨kd, rfl⟩ <;> rcases hu with ⟨rfl, hu⟩ | ⟨kd', rfl⟩ <;> first
        | (simp [bnds, sb, hc, h1]; done)
        | (simp [bnds, sb, hc, h1]; omega)
        | (subst hu; simp [bnds, sb, h1]; done)
        | (subst hu; simp [bnds, sb, h1]; omega)
    have hmul := Nat.mul_le_mul_right sz h2
    have hm : lo * sz + (hi - lo) * sz = hi * sz := by rw [← Nat.add_mul]; congr 1; omega
    have e2 : ((((c.drop off).take (n * sz)).drop (lo * sz)).take ((hi - lo) * sz)) = (c.drop (off + lo * sz)).take ((hi - lo) * sz) := by
      rw [List.drop_take, List.drop_drop, List.take_take, Nat.min_eq_left]
      omega
    refine ⟨?_, ?_⟩
    · simp only [sliceR, ht, hs, h5, hb]; rw [if_pos (by rcases h6 with h | h <;> simp [h])]; rfl
    · rw [e2]
      simp only [sliceV]
      split
      · have h0 : hi - lo = 0 := by omega
        rw [h0]
        exact .inr ⟨i, off, 0, c, e', esz, ti, ro, rfl, Nat.le_refl _, h4, h5, h6, by omega, by simp⟩
      · exact .inr ⟨i, off + lo * sz, cap - lo, c, e', esz, ti, ro, rfl, by omega, h4, h5, h6, by omega, rfl⟩

section
variable {α : Type} {pre : α → List Value} {h : AHeap} {sz : Nat} {v : Value} {fs : List (α × List UInt8)}

theorem flat_piece {β : Type} {sz : Nat} : ∀ {l : List (List β)} (lo k : Nat), (∀ x ∈ l, x.length = sz) → lo + k ≤ l.length → (l.flatten.drop (lo * sz)).take (k * sz) = ((l.drop lo).take k).flatten
  | [], lo, k, _, hl => by
    simp at hl
    obtain ⟨rfl, rfl⟩ := hl
    simp
  | x :: l, 0, 0, _, _ => by simp
  | x :: l, 0, k + 1, ha, hl => by
    have hx := ha x (List.mem_cons_self ..)
    have ih := flat_piece (l := l) 0 k (fun y hy => ha y (List.mem_cons_of_mem _ hy)) (by simp at hl; omega)
    simp only [Nat.zero_mul, List.drop_zero] at ih ⊢
    rw [List.flatten_cons, List.take_succ_cons, List.flatten_cons, Nat.add_mul, Nat.one_mul, Nat.add_comm, List.take_append, hx, List.take_of_length_le (by omega), Nat.add_sub_cancel_left, ih]
  | x :: l, lo + 1, k, ha, hl => by
    have hx := ha x (List.mem_cons_self ..)
    have ih := flat_piece (l := l) lo k (fun y hy => ha y (List.mem_cons_of_mem _ hy)) (by simp at hl; omega)
    rw [List.flatten_cons, List.drop_succ_cons, ← ih, Nat.add_mul, Nat.one_mul, Nat.add_comm, List.drop_append, hx, List.drop_of_length_le (by omega), List.nil_append, Nat.add_sub_cancel_left]

/-- A piece of records that are read. -/
theorem BR.piece {P : Program} {t e : TypeId} (k : BR pre sz h v fs) (hp : ∀ x, (pre x).length + 1 = sz) (ht : P.underlying t = some (.slice e)) (hs : tsz P e = some sz) {lo hi : Nat} (h1 : lo ≤ hi) (h2 : hi ≤ fs.length)
    {l u : Option Value} (hl : (l = none ∧ lo = 0) ∨ ∃ kd, l = some (.int kd lo)) (hu : (u = none ∧ hi = fs.length) ∨ ∃ kd, u = some (.int kd hi)) :
    sliceR P h t v l u none = some (sliceV sz lo hi v) ∧ BR pre sz h (sliceV sz lo hi v) ((fs.drop lo).take (hi - lo)) := by
  obtain ⟨ac, ha, sl, hb⟩ := k
  obtain ⟨e1, s2⟩ := sl.piece (P := P) ht hs h1 h2 hl hu
  refine ⟨e1, (ac.drop lo).take (hi - lo), by simp [ha], ?_, fun j f p hf hpp => ?_⟩
  · have q : rcells pre ((fs.drop lo).take (hi - lo)) ((ac.drop lo).take (hi - lo)) = ((rcells pre fs ac).drop lo).take (hi - lo) := by
      simp only [rcells]
      rw [List.drop_zipWith, List.take_zipWith]
    rw [q, ← flat_piece lo (hi - lo) (rcells_all hp ac) (by rw [rcells_length ha]; omega)]
    have : ((fs.drop lo).take (hi - lo)).length = hi - lo := by simp; omega
    rw [this]; exact s2
  · rw [List.getElem?_take] at hf hpp
    split at hf
    · rename_i hj
      rw [if_pos hj] at hpp
      rw [List.getElem?_drop] at hf hpp
      exact hb _ f p hf hpp
    · cases hf
end
end Ab
