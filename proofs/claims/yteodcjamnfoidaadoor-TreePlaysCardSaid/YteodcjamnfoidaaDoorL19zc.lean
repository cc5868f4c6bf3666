import Derived.Test.YteodcjamnfoidaaDoorL19zb
open Go Ab Go.Proofs
namespace L19
set_option autoImplicit false
set_option linter.unusedSimpArgs false
set_option linter.unusedVariables false

/-- The document's Parent is the tree's. -/
theorem rpar_calls {h : AHeap} {l : List UInt8} (hm : l.length ≤ 1000000) :
    ACalls Tryd.prog 19 #[tx l] h fun r h' => r = tx (par l) ∧ h' = h := by
  refine ACalls.of_awp (args := [tx l]) (n := 18) Tryd.func19 rfl rfl (by show 1 ≤ 18; omega) ?_
  have w0 : IntKind.i64.wrap ((l.length : Int) - 1) = (l.length : Int) - 1 := wI64 (by omega) (by omega)
  (repeat' first
    | refine AWP.seq ?_
    | refine AWP.block ?_
    | (refine AWP.skip ?_; try dsimp only [thn, inBlk])
    | (refine AWP.exit ?_; try simp only [thn, inBlk, if_true, reduceIte, Nat.reduceEqDiff])
    | (refine AWP.ret ?_; try dsimp only [thn, inBlk])
    | (refine AWP.condT ?_ ?_; (focus (simp [go_sem, w0]; done)))
    | (refine AWP.condF ?_ ?_; (focus (simp [go_sem, w0]; done)))
    | (apply AWP.rE; (focus (simp [go_sem, w0]; exact ⟨rfl, rfl⟩)); try dsimp only [thn, inBlk])
    | fail)
  refine AWP.loopR [0, 3] (fun m s h' => ∃ i : Nat, i ≤ l.length ∧ m = i ∧ s = ⟨18, [(0, tx l), (3, .int .i64 ((i : Int) - 1))]⟩ ∧ lastN l 47 l.length = lastN l 47 i ∧ h' = h) ?_ ?_
  · exact ⟨_, l.length, Nat.le_refl _, rfl, rfl, rfl, rfl⟩
  rintro i s h' ⟨_, hi, rfl, rfl, hL, rfl⟩
  by_cases h1 : 1 < i
  rotate_left
  · have hp : par l = [47] := by
      have := lastN_le l 47 i
      unfold par; rw [if_neg (by omega)]
    rw [hp]
    have h1' : ¬ (1 : Int) < i := by omega
    (repeat' first
      | refine AWP.seq ?_
      | refine AWP.block ?_
      | (refine AWP.skip ?_; try dsimp only [thn, inBlk])
      | (refine AWP.exit ?_; try simp only [thn, inBlk, if_true, reduceIte, Nat.reduceEqDiff])
      | (refine AWP.ret ?_; try dsimp only [thn, inBlk])
      | (refine AWP.condT ?_ ?_; (focus (simp [go_sem, h1']; done)))
      | (refine AWP.condF ?_ ?_; (focus (simp [go_sem, h1']; done)))
      | (apply AWP.rE; (focus (simp [go_sem, h1']; exact ⟨rfl, rfl⟩)); try dsimp only [thn, inBlk])
      | fail)
    simp [bodyQ, thn, inBlk, resA, resV, go_sem]
  rcases i with _ | i
  · omega
  have h1n : 0 < i := by omega
  have e0 : ((i + 1 : Nat) : Int) - 1 = (i : Int) := by omega
  rw [e0]
  have w1 : IntKind.i64.wrap ((i : Int) - 1) = (i : Int) - 1 := wI64 (by omega) (by omega)
  have x1 : indexP Tryd.prog 9 (tx l) (.int .i64 (i : Int)) = some (.int .u8 l[i].toNat) := str_index Tryd.underlying9 (by omega)
  have hc : l[i]? = some l[i] := List.getElem?_eq_getElem (by omega)
  generalize l[i] = c at x1 hc
  rw [lastN, hc] at hL
  by_cases h47 : c = 47
  · have h47' : ((c.toNat : Int) == 47) = true := by rw [h47]; rfl
    rw [if_pos (by rw [h47])] at hL
    have hp : par l = l.take i := by
      unfold par; rw [if_pos (by omega), hL]; rfl
    rw [hp]
    have s1 : ∀ hh, sliceR Tryd.prog hh 9 (tx l) none (some (.int .i64 (i : Int))) none = some (tx (l.take i)) := fun hh => by
      have := str_slice (P := Tryd.prog) (h := hh) Tryd.underlying9 (l := l) (lo := 0) (hi := i) (a := none) (u := some (.int .i64 (i : Int))) (by omega) (by omega) (.inl ⟨rfl, rfl⟩) (.inr ⟨.i64, rfl⟩)
      exact this
    (repeat' first
      | refine AWP.seq ?_
      | refine AWP.block ?_
      | (refine AWP.skip ?_; try dsimp only [thn, inBlk])
      | (refine AWP.exit ?_; try simp only [thn, inBlk, if_true, reduceIte, Nat.reduceEqDiff])
      | (refine AWP.ret ?_; try dsimp only [thn, inBlk])
      | (refine AWP.condT ?_ ?_; (focus (simp [go_sem, h1n, x1, h47', s1]; done)))
      | (refine AWP.condF ?_ ?_; (focus (simp [go_sem, h1n, x1, h47', s1]; done)))
      | (apply AWP.rE; (focus (simp [go_sem, h1n, x1, h47', s1]; exact ⟨rfl, rfl⟩)); try dsimp only [thn, inBlk])
      | fail)
    simp [bodyQ, thn, inBlk, resA, resV, go_sem]
  · have h47' : ((c.toNat : Int) == 47) = false := neI h47
    rw [if_neg (by intro e; exact h47 (Option.some.inj e))] at hL
    (repeat' first
      | refine AWP.seq ?_
      | refine AWP.block ?_
      | (refine AWP.skip ?_; try dsimp only [thn, inBlk])
      | (refine AWP.exit ?_; try simp only [thn, inBlk, if_true, reduceIte, Nat.reduceEqDiff])
      | (refine AWP.ret ?_; try dsimp only [thn, inBlk])
      | (refine AWP.condT ?_ ?_; (focus (simp [go_sem, h1n, x1, h47', w1]; done)))
      | (refine AWP.condF ?_ ?_; (focus (simp [go_sem, h1n, x1, h47', w1]; done)))
      | (apply AWP.rE; (focus (simp [go_sem, h1n, x1, h47', w1]; exact ⟨rfl, rfl⟩)); try dsimp only [thn, inBlk])
      | fail)
    exact ⟨i, by omega, i, by omega, rfl, by simp [go_sem], hL, rfl⟩
end L19
