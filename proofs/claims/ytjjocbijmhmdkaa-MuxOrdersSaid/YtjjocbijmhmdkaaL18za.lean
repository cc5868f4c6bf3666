import Derived.Test.YtjjocbijmhmdkaaL18z
open Go Ab Go.Proofs
namespace L18
set_option autoImplicit false
set_option linter.unusedSimpArgs false
set_option linter.unusedVariables false

/-! ### Is there nothing to send? -/
def busy (x : Hf) (y : Ot) : Bool := (decide (0 < x.wait.length) && decide (0 < x.credit)) || (mend x x.wait || decide (0 < y.untold))
def midle (o : List Hf) (i : List Ot) : Bool := (List.range 4).all fun c => !busy (hg o c) (og i c)
theorem out1_busy {o : List Hf} {i : List Ot} (c : Nat) : (mout1 o i c).1 = [] ↔ busy (hg o c) (og i c) = false := by
  by_cases h : 0 < (hg o c).wait.length ∧ 0 < (hg o c).credit
  · have e : busy (hg o c) (og i c) = true := by simp only [busy, decide_eq_true h.1, decide_eq_true h.2]; rfl
    rw [e]
    simp only [mout1]
    rw [mcut_step h rfl]
    simp
  · have e : busy (hg o c) (og i c) = (mend (hg o c) (hg o c).wait || decide (0 < (og i c).untold)) := by
      have : (decide (0 < (hg o c).wait.length) && decide (0 < (hg o c).credit)) = false := by
        rw [← Bool.decide_and]; exact decide_eq_false h
      simp only [busy, this, Bool.false_or]
    rw [e]
    simp only [mout1]
    rw [mcut_stop h]
    cases mend (hg o c) (hg o c).wait
    · by_cases hu : 0 < (og i c).untold
      · simp [hu]
      · simp [hu]
    · simp
theorem moutN_i' {o : List Hf} {i : List Ot} (c : Nat) : ∀ j, j ≤ c → og (moutN o i j).2.2 c = og i c
  | 0, _ => rfl
  | j + 1, hj => by
    simp only [moutN, mout1]
    split
    · rw [og_ne (by omega)]; exact moutN_i' c j (by omega)
    · exact moutN_i' c j (by omega)
theorem outN_busy {o : List Hf} {i : List Ot} : ∀ j, (moutN o i j).1 = [] ↔ (List.range j).all (fun c => !busy (hg o c) (og i c)) = true
  | 0 => by simp [moutN]
  | j + 1 => by
    rw [moutN, List.append_eq_nil_iff, outN_busy j, out1_busy, moutN_o j j (Nat.le_refl _), moutN_i' j j (Nat.le_refl _), List.range_succ, List.all_append]
    simp
theorem midle_out (o : List Hf) (i : List Ot) : midle o i = decide ((mout o i).1.length = 0) := by
  rw [Bool.eq_iff_iff, decide_eq_true_eq, List.length_eq_zero_iff, midle]
  exact (outN_busy 4).symm

theorem m_takeO {o : List Hf} {ws us : List PA} {i : List Ot} (k : Four o ws i us) {c : Nat} (hc : c < 4) : ((mcells o ws i us).drop (c * 4)).take 4 = [.slice (pg ws c).1 (hg o c).wait.length (pg ws c).2, .int .i64 (hg o c).credit, .bool (hg o c).closed, .bool (hg o c).told] := by
  have f := k.fo hc
  apply List.ext_getElem?
  intro m
  rw [List.getElem?_take]
  split
  · rw [List.getElem?_drop]
    match m with
    | 0 => exact f.o0
    | 1 => exact f.o1
    | 2 => exact f.o2
    | 3 => exact f.o3
    | m + 4 => omega
  · rw [List.getElem?_eq_none]
    simp; omega
attribute [local irreducible] mcells
set_option maxHeartbeats 4000000 in
theorem idle_calls {O : Old} {h : AHeap} {R : List Chunk} {b : Nat} {o : List Hf} {i : List Ot} (k : Own O h (mux b o i :: R)) : ACalls Try.prog 25 #[ptr b] h fun r h' => r = .bool (midle o i) ∧ Own O h' (mux b o i :: R) := by
  refine ACalls.of_awp (args := [ptr b]) (n := 49) Try.func25 rfl rfl (by show 1 ≤ 49; omega) ?_
  (repeat' first
    | refine AWP.seq ?_
    | refine AWP.block ?_
    | (refine AWP.skip ?_; try dsimp only [thn, inBlk])
    | (refine AWP.exit ?_; try simp only [thn, inBlk, if_true, reduceIte, Nat.reduceEqDiff])
    | (refine AWP.ret ?_; try dsimp only [thn, inBlk])
    | (refine AWP.condT ?_ ?_; (focus (simp [go_sem]; done)))
    | (refine AWP.condF ?_ ?_; (focus (simp [go_sem]; done)))
    | (apply AWP.rE; (focus (simp [go_sem]; exact ⟨rfl, rfl⟩)); try dsimp only [thn, inBlk])
    | fail)
  refine AWP.loopR [0, 5] (fun m s h' => ∃ j, j ≤ 4 ∧ m = 4 - j ∧ s = ⟨49, [(0, ptr b), (5, .int .i64 (j : Nat))]⟩ ∧ (∀ c, c < j → busy (hg o c) (og i c) = false) ∧ Own O h' (mux b o i :: R)) ?_ ?_
  · exact ⟨_, 0, by omega, rfl, by simp [go_sem], fun c hc => by omega, k⟩
  rintro m s h' ⟨j, hj, rfl, rfl, hb, kt⟩
  by_cases hj2 : j < 4
  rotate_left
  · have hj3 : ¬ (j : Int) < 4 := by omega
    have e : midle o i = true := by
      rw [midle, List.all_eq_true]
      intro c hc
      rw [hb c (by have := List.mem_range.1 hc; omega)]; rfl
    rw [e]
    (repeat' first
      | refine AWP.seq ?_
      | refine AWP.block ?_
      | (refine AWP.skip ?_; try dsimp only [thn, inBlk])
      | (refine AWP.exit ?_; try simp only [thn, inBlk, if_true, reduceIte, Nat.reduceEqDiff])
      | (refine AWP.ret ?_; try dsimp only [thn, inBlk])
      | (refine AWP.condT ?_ ?_; (focus (simp [go_sem, hj3]; done)))
      | (refine AWP.condF ?_ ?_; (focus (simp [go_sem, hj3]; done)))
      | (apply AWP.rE; (focus (simp [go_sem, hj3]; exact ⟨rfl, rfl⟩)); try dsimp only [thn, inBlk])
      | fail)
    simp [bodyQ, thn, inBlk, resA, resV, go_sem]
    exact kt
  have hj3 : (j : Int) < 4 := by omega
  obtain ⟨j1, hj1⟩ : ∃ j1, j1 = j + 1 := ⟨_, rfl⟩
  have wj : IntKind.i64.wrap ((j : Int) + 1) = (j1 : Int) := by rw [wI64 (by omega) (by omega)]; omega
  obtain ⟨ws, us, k4, k5⟩ := mux_iff.1 kt
  have f := k4.fo hj2
  have fb := f.b
  have fb2 : j * 4 ≤ 28 := by omega
  have fl := m_len k4
  have c1 := k5.obj
  have tk := m_takeO k4 hj2
  have g2 := f.i2
  obtain ⟨x, hx⟩ : ∃ x, x = hg o j := ⟨_, rfl⟩
  obtain ⟨y, hy⟩ : ∃ y, y = og i j := ⟨_, rfl⟩
  rw [← hx] at tk
  rw [← hy] at g2
  have kp := kt.push (.row [.slice (pg ws j).1 x.wait.length (pg ws j).2, .int .i64 x.credit, .bool x.closed, .bool x.told] 63 4 true false)
  have cp := kp.obj
  have cm := (k5.push (.row [.slice (pg ws j).1 x.wait.length (pg ws j).2, .int .i64 x.credit, .bool x.closed, .bool x.told] 63 4 true false)).b1.obj
  have isB : busy x y = true → midle o i = false := fun hbz => by
    rw [midle, Bool.eq_false_iff]
    intro ha
    rw [List.all_eq_true] at ha
    have := ha j (List.mem_range.2 hj2)
    rw [← hx, ← hy, hbz] at this
    cases this
  have isN : busy x y = false → ∀ c, c < j1 → busy (hg o c) (og i c) = false := fun hbz c hc => by
    by_cases e : c = j
    · subst e; rw [← hx, ← hy]; exact hbz
    · exact hb c (by omega)
  by_cases hA : 0 < x.wait.length
  · have hA' : (0 : Int) < (x.wait.length : Int) := by omega
    have hA0 : ((x.wait.length : Int) == 0) = false := by simp; intro h; rw [h] at hA; simp at hA
    have hA1 : x.wait.isEmpty = false := by rw [Bool.eq_false_iff]; intro hh; rw [List.isEmpty_iff] at hh; rw [hh] at hA; simp at hA
    have hA2 : ¬ x.wait = [] := fun hh => by rw [hh] at hA; simp at hA
    by_cases hB : 0 < x.credit
    · rw [isB (by simp [busy, mend, hA,hA',hA0,hA1,hA2,hB])]
      (repeat' first
        | refine AWP.seq ?_
        | refine AWP.block ?_
        | (refine AWP.skip ?_; try dsimp only [thn, inBlk])
        | (refine AWP.exit ?_; try simp only [thn, inBlk, if_true, reduceIte, Nat.reduceEqDiff])
        | (refine AWP.ret ?_; try dsimp only [thn, inBlk])
        | (refine AWP.condT ?_ ?_; (focus (simp [go_sem, hj3, c1, fb, fb2, fl, tk, cp, cm, g2, hA,hA',hA0,hA1,hA2,hB]; done)))
        | (refine AWP.condF ?_ ?_; (focus (simp [go_sem, hj3, c1, fb, fb2, fl, tk, cp, cm, g2, hA,hA',hA0,hA1,hA2,hB]; done)))
        | (apply AWP.rE; (focus (simp [go_sem, hj3, c1, fb, fb2, fl, tk, cp, cm, g2, hA,hA',hA0,hA1,hA2,hB]; exact ⟨rfl, rfl⟩)); try dsimp only [thn, inBlk])
        | fail)
      simp [bodyQ, thn, inBlk, resA, resV, go_sem]
      exact kp.tail
    cases hcl : x.closed <;> rw [hcl] at tk kp cp cm
    · by_cases hU : 0 < y.untold
      · rw [isB (by simp [busy, mend, hA,hA',hA0,hA1,hA2,hB,hcl,hU])]
        (repeat' first
          | refine AWP.seq ?_
          | refine AWP.block ?_
          | (refine AWP.skip ?_; try dsimp only [thn, inBlk])
          | (refine AWP.exit ?_; try simp only [thn, inBlk, if_true, reduceIte, Nat.reduceEqDiff])
          | (refine AWP.ret ?_; try dsimp only [thn, inBlk])
          | (refine AWP.condT ?_ ?_; (focus (simp [go_sem, hj3, c1, fb, fb2, fl, tk, cp, cm, g2, hA,hA',hA0,hA1,hA2,hB,hcl,hU]; done)))
          | (refine AWP.condF ?_ ?_; (focus (simp [go_sem, hj3, c1, fb, fb2, fl, tk, cp, cm, g2, hA,hA',hA0,hA1,hA2,hB,hcl,hU]; done)))
          | (apply AWP.rE; (focus (simp [go_sem, hj3, c1, fb, fb2, fl, tk, cp, cm, g2, hA,hA',hA0,hA1,hA2,hB,hcl,hU]; exact ⟨rfl, rfl⟩)); try dsimp only [thn, inBlk])
          | fail)
        simp [bodyQ, thn, inBlk, resA, resV, go_sem]
        exact kp.tail
      · (repeat' first
          | refine AWP.seq ?_
          | refine AWP.block ?_
          | (refine AWP.skip ?_; try dsimp only [thn, inBlk])
          | (refine AWP.exit ?_; try simp only [thn, inBlk, if_true, reduceIte, Nat.reduceEqDiff])
          | (refine AWP.ret ?_; try dsimp only [thn, inBlk])
          | (refine AWP.condT ?_ ?_; (focus (simp [go_sem, hj3, c1, fb, fb2, fl, tk, cp, cm, g2, hA,hA',hA0,hA1,hA2,hB,hcl,hU, wj]; done)))
          | (refine AWP.condF ?_ ?_; (focus (simp [go_sem, hj3, c1, fb, fb2, fl, tk, cp, cm, g2, hA,hA',hA0,hA1,hA2,hB,hcl,hU, wj]; done)))
          | (apply AWP.rE; (focus (simp [go_sem, hj3, c1, fb, fb2, fl, tk, cp, cm, g2, hA,hA',hA0,hA1,hA2,hB,hcl,hU, wj]; exact ⟨rfl, rfl⟩)); try dsimp only [thn, inBlk])
          | fail)
        exact ⟨4 - j1, by omega, j1, by omega, rfl, by simp [go_sem], isN (by simp [busy, mend, hA,hA',hA0,hA1,hA2,hB,hcl,hU]), kp.tail⟩
    · cases hto : x.told <;> rw [hto] at tk kp cp cm
      · by_cases hU : 0 < y.untold
        · rw [isB (by simp [busy, mend, hA,hA',hA0,hA1,hA2,hB,hcl,hto,hU])]
          (repeat' first
            | refine AWP.seq ?_
            | refine AWP.block ?_
            | (refine AWP.skip ?_; try dsimp only [thn, inBlk])
            | (refine AWP.exit ?_; try simp only [thn, inBlk, if_true, reduceIte, Nat.reduceEqDiff])
            | (refine AWP.ret ?_; try dsimp only [thn, inBlk])
            | (refine AWP.condT ?_ ?_; (focus (simp [go_sem, hj3, c1, fb, fb2, fl, tk, cp, cm, g2, hA,hA',hA0,hA1,hA2,hB,hcl,hto,hU]; done)))
            | (refine AWP.condF ?_ ?_; (focus (simp [go_sem, hj3, c1, fb, fb2, fl, tk, cp, cm, g2, hA,hA',hA0,hA1,hA2,hB,hcl,hto,hU]; done)))
            | (apply AWP.rE; (focus (simp [go_sem, hj3, c1, fb, fb2, fl, tk, cp, cm, g2, hA,hA',hA0,hA1,hA2,hB,hcl,hto,hU]; exact ⟨rfl, rfl⟩)); try dsimp only [thn, inBlk])
            | fail)
          simp [bodyQ, thn, inBlk, resA, resV, go_sem]
          exact kp.tail
        · (repeat' first
            | refine AWP.seq ?_
            | refine AWP.block ?_
            | (refine AWP.skip ?_; try dsimp only [thn, inBlk])
            | (refine AWP.exit ?_; try simp only [thn, inBlk, if_true, reduceIte, Nat.reduceEqDiff])
            | (refine AWP.ret ?_; try dsimp only [thn, inBlk])
            | (refine AWP.condT ?_ ?_; (focus (simp [go_sem, hj3, c1, fb, fb2, fl, tk, cp, cm, g2, hA,hA',hA0,hA1,hA2,hB,hcl,hto,hU, wj]; done)))
            | (refine AWP.condF ?_ ?_; (focus (simp [go_sem, hj3, c1, fb, fb2, fl, tk, cp, cm, g2, hA,hA',hA0,hA1,hA2,hB,hcl,hto,hU, wj]; done)))
            | (apply AWP.rE; (focus (simp [go_sem, hj3, c1, fb, fb2, fl, tk, cp, cm, g2, hA,hA',hA0,hA1,hA2,hB,hcl,hto,hU, wj]; exact ⟨rfl, rfl⟩)); try dsimp only [thn, inBlk])
            | fail)
          exact ⟨4 - j1, by omega, j1, by omega, rfl, by simp [go_sem], isN (by simp [busy, mend, hA,hA',hA0,hA1,hA2,hB,hcl,hto,hU]), kp.tail⟩
      · by_cases hU : 0 < y.untold
        · rw [isB (by simp [busy, mend, hA,hA',hA0,hA1,hA2,hB,hcl,hto,hU])]
          (repeat' first
            | refine AWP.seq ?_
            | refine AWP.block ?_
            | (refine AWP.skip ?_; try dsimp only [thn, inBlk])
            | (refine AWP.exit ?_; try simp only [thn, inBlk, if_true, reduceIte, Nat.reduceEqDiff])
            | (refine AWP.ret ?_; try dsimp only [thn, inBlk])
            | (refine AWP.condT ?_ ?_; (focus (simp [go_sem, hj3, c1, fb, fb2, fl, tk, cp, cm, g2, hA,hA',hA0,hA1,hA2,hB,hcl,hto,hU]; done)))
            | (refine AWP.condF ?_ ?_; (focus (simp [go_sem, hj3, c1, fb, fb2, fl, tk, cp, cm, g2, hA,hA',hA0,hA1,hA2,hB,hcl,hto,hU]; done)))
            | (apply AWP.rE; (focus (simp [go_sem, hj3, c1, fb, fb2, fl, tk, cp, cm, g2, hA,hA',hA0,hA1,hA2,hB,hcl,hto,hU]; exact ⟨rfl, rfl⟩)); try dsimp only [thn, inBlk])
            | fail)
          simp [bodyQ, thn, inBlk, resA, resV, go_sem]
          exact kp.tail
        · (repeat' first
            | refine AWP.seq ?_
            | refine AWP.block ?_
            | (refine AWP.skip ?_; try dsimp only [thn, inBlk])
            | (refine AWP.exit ?_; try simp only [thn, inBlk, if_true, reduceIte, Nat.reduceEqDiff])
            | (refine AWP.ret ?_; try dsimp only [thn, inBlk])
            | (refine AWP.condT ?_ ?_; (focus (simp [go_sem, hj3, c1, fb, fb2, fl, tk, cp, cm, g2, hA,hA',hA0,hA1,hA2,hB,hcl,hto,hU, wj]; done)))
            | (refine AWP.condF ?_ ?_; (focus (simp [go_sem, hj3, c1, fb, fb2, fl, tk, cp, cm, g2, hA,hA',hA0,hA1,hA2,hB,hcl,hto,hU, wj]; done)))
            | (apply AWP.rE; (focus (simp [go_sem, hj3, c1, fb, fb2, fl, tk, cp, cm, g2, hA,hA',hA0,hA1,hA2,hB,hcl,hto,hU, wj]; exact ⟨rfl, rfl⟩)); try dsimp only [thn, inBlk])
            | fail)
          exact ⟨4 - j1, by omega, j1, by omega, rfl, by simp [go_sem], isN (by simp [busy, mend, hA,hA',hA0,hA1,hA2,hB,hcl,hto,hU]), kp.tail⟩
  · have hA2 : x.wait = [] := by rw [← List.length_eq_zero_iff]; omega
    rw [hA2, List.length_nil] at tk kp cp cm
    cases hcl : x.closed <;> rw [hcl] at tk kp cp cm
    · by_cases hU : 0 < y.untold
      · rw [isB (by simp [busy, mend, hA2,hcl,hU])]
        (repeat' first
          | refine AWP.seq ?_
          | refine AWP.block ?_
          | (refine AWP.skip ?_; try dsimp only [thn, inBlk])
          | (refine AWP.exit ?_; try simp only [thn, inBlk, if_true, reduceIte, Nat.reduceEqDiff])
          | (refine AWP.ret ?_; try dsimp only [thn, inBlk])
          | (refine AWP.condT ?_ ?_; (focus (simp [go_sem, hj3, c1, fb, fb2, fl, tk, cp, cm, g2, hA2,hcl,hU]; done)))
          | (refine AWP.condF ?_ ?_; (focus (simp [go_sem, hj3, c1, fb, fb2, fl, tk, cp, cm, g2, hA2,hcl,hU]; done)))
          | (apply AWP.rE; (focus (simp [go_sem, hj3, c1, fb, fb2, fl, tk, cp, cm, g2, hA2,hcl,hU]; exact ⟨rfl, rfl⟩)); try dsimp only [thn, inBlk])
          | fail)
        simp [bodyQ, thn, inBlk, resA, resV, go_sem]
        exact kp.tail
      · (repeat' first
          | refine AWP.seq ?_
          | refine AWP.block ?_
          | (refine AWP.skip ?_; try dsimp only [thn, inBlk])
          | (refine AWP.exit ?_; try simp only [thn, inBlk, if_true, reduceIte, Nat.reduceEqDiff])
          | (refine AWP.ret ?_; try dsimp only [thn, inBlk])
          | (refine AWP.condT ?_ ?_; (focus (simp [go_sem, hj3, c1, fb, fb2, fl, tk, cp, cm, g2, hA2,hcl,hU, wj]; done)))
          | (refine AWP.condF ?_ ?_; (focus (simp [go_sem, hj3, c1, fb, fb2, fl, tk, cp, cm, g2, hA2,hcl,hU, wj]; done)))
          | (apply AWP.rE; (focus (simp [go_sem, hj3, c1, fb, fb2, fl, tk, cp, cm, g2, hA2,hcl,hU, wj]; exact ⟨rfl, rfl⟩)); try dsimp only [thn, inBlk])
          | fail)
        exact ⟨4 - j1, by omega, j1, by omega, rfl, by simp [go_sem], isN (by simp [busy, mend, hA2,hcl,hU]), kp.tail⟩
    · cases hto : x.told <;> rw [hto] at tk kp cp cm
      · rw [isB (by simp [busy, mend, hA2,hcl,hto])]
        (repeat' first
          | refine AWP.seq ?_
          | refine AWP.block ?_
          | (refine AWP.skip ?_; try dsimp only [thn, inBlk])
          | (refine AWP.exit ?_; try simp only [thn, inBlk, if_true, reduceIte, Nat.reduceEqDiff])
          | (refine AWP.ret ?_; try dsimp only [thn, inBlk])
          | (refine AWP.condT ?_ ?_; (focus (simp [go_sem, hj3, c1, fb, fb2, fl, tk, cp, cm, g2, hA2,hcl,hto]; done)))
          | (refine AWP.condF ?_ ?_; (focus (simp [go_sem, hj3, c1, fb, fb2, fl, tk, cp, cm, g2, hA2,hcl,hto]; done)))
          | (apply AWP.rE; (focus (simp [go_sem, hj3, c1, fb, fb2, fl, tk, cp, cm, g2, hA2,hcl,hto]; exact ⟨rfl, rfl⟩)); try dsimp only [thn, inBlk])
          | fail)
        simp [bodyQ, thn, inBlk, resA, resV, go_sem]
        exact kp.tail
      · by_cases hU : 0 < y.untold
        · rw [isB (by simp [busy, mend, hA2,hcl,hto,hU])]
          (repeat' first
            | refine AWP.seq ?_
            | refine AWP.block ?_
            | (refine AWP.skip ?_; try dsimp only [thn, inBlk])
            | (refine AWP.exit ?_; try simp only [thn, inBlk, if_true, reduceIte, Nat.reduceEqDiff])
            | (refine AWP.ret ?_; try dsimp only [thn, inBlk])
            | (refine AWP.condT ?_ ?_; (focus (simp [go_sem, hj3, c1, fb, fb2, fl, tk, cp, cm, g2, hA2,hcl,hto,hU]; done)))
            | (refine AWP.condF ?_ ?_; (focus (simp [go_sem, hj3, c1, fb, fb2, fl, tk, cp, cm, g2, hA2,hcl,hto,hU]; done)))
            | (apply AWP.rE; (focus (simp [go_sem, hj3, c1, fb, fb2, fl, tk, cp, cm, g2, hA2,hcl,hto,hU]; exact ⟨rfl, rfl⟩)); try dsimp only [thn, inBlk])
            | fail)
          simp [bodyQ, thn, inBlk, resA, resV, go_sem]
          exact kp.tail
        · (repeat' first
            | refine AWP.seq ?_
            | refine AWP.block ?_
            | (refine AWP.skip ?_; try dsimp only [thn, inBlk])
            | (refine AWP.exit ?_; try simp only [thn, inBlk, if_true, reduceIte, Nat.reduceEqDiff])
            | (refine AWP.ret ?_; try dsimp only [thn, inBlk])
            | (refine AWP.condT ?_ ?_; (focus (simp [go_sem, hj3, c1, fb, fb2, fl, tk, cp, cm, g2, hA2,hcl,hto,hU, wj]; done)))
            | (refine AWP.condF ?_ ?_; (focus (simp [go_sem, hj3, c1, fb, fb2, fl, tk, cp, cm, g2, hA2,hcl,hto,hU, wj]; done)))
            | (apply AWP.rE; (focus (simp [go_sem, hj3, c1, fb, fb2, fl, tk, cp, cm, g2, hA2,hcl,hto,hU, wj]; exact ⟨rfl, rfl⟩)); try dsimp only [thn, inBlk])
            | fail)
          exact ⟨4 - j1, by omega, j1, by omega, rfl, by simp [go_sem], isN (by simp [busy, mend, hA2,hcl,hto,hU]), kp.tail⟩
end L18
