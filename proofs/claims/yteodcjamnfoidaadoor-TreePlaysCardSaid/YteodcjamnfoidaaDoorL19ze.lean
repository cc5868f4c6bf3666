import Derived.Test.YteodcjamnfoidaaDoorL19e
import Derived.Test.YteodcjamnfoidaaDoorAbLibE
open Go Ab Go.Proofs
namespace L19
set_option autoImplicit false
set_option linter.unusedSimpArgs false
set_option linter.unusedVariables false

/-! ### The document's names and paths -/
set_option maxHeartbeats 16000000 in
theorem rname_calls {h : AHeap} {l : List UInt8} (hm : l.length ≤ 1000000) : ACalls Tryd.prog 66 #[tx l] h fun r h' => r = .bool (nm l) ∧ h' = h := by
  refine ACalls.of_awp (args := [tx l]) (n := 64) Tryd.func66 rfl rfl (by show 1 ≤ 64; omega) ?_
  by_cases h0 : l = []
  · subst h0
    (repeat' first
      | refine AWP.seq ?_
      | refine AWP.block ?_
      | (refine AWP.skip ?_; try dsimp only [thn, inBlk])
      | (refine AWP.exit ?_; try simp only [thn, inBlk, if_true, reduceIte, Nat.reduceEqDiff])
      | (refine AWP.ret ?_; try dsimp only [thn, inBlk])
      | (refine AWP.condT ?_ ?_; (focus (simp [go_sem]; done)))
      | (refine AWP.condF ?_ ?_; (focus (simp [go_sem]; done)))
      | (apply AWP.rE; (focus (simp [go_sem]; exact ⟨rfl, rfl⟩)); try dsimp only [thn, inBlk])
      | fail)
    simp [bodyQ, thn, inBlk, resA, resV, go_sem]
    rfl
  have hl0 : l.length ≠ 0 := by simpa using h0
  have h0' : ¬ (l.length : Int) < 1 := by omega
  have h0n : (l == []) = false := by simpa using h0
  by_cases h12 : 12 < l.length
  · have h12' : (12 : Int) < l.length := by omega
    have e : nm l = false := by
      have : ¬ l.length ≤ 12 := by omega
      simp [nm, this]
    rw [e]
    (repeat' first
      | refine AWP.seq ?_
      | refine AWP.block ?_
      | (refine AWP.skip ?_; try dsimp only [thn, inBlk])
      | (refine AWP.exit ?_; try simp only [thn, inBlk, if_true, reduceIte, Nat.reduceEqDiff])
      | (refine AWP.ret ?_; try dsimp only [thn, inBlk])
      | (refine AWP.condT ?_ ?_; (focus (simp [go_sem, h0, h0', h12']; done)))
      | (refine AWP.condF ?_ ?_; (focus (simp [go_sem, h0, h0', h12']; done)))
      | (apply AWP.rE; (focus (simp [go_sem, h0, h0', h12']; exact ⟨rfl, rfl⟩)); try dsimp only [thn, inBlk])
      | fail)
    simp [bodyQ, thn, inBlk, resA, resV, go_sem]
  have h12' : ¬ (12 : Int) < l.length := by omega
  by_cases h3 : l = [46]
  · have h3' : (l == [46]) = true := by simpa using h3
    have e : nm l = false := by simp [nm, h3]
    rw [e]
    (repeat' first
      | refine AWP.seq ?_
      | refine AWP.block ?_
      | (refine AWP.skip ?_; try dsimp only [thn, inBlk])
      | (refine AWP.exit ?_; try simp only [thn, inBlk, if_true, reduceIte, Nat.reduceEqDiff])
      | (refine AWP.ret ?_; try dsimp only [thn, inBlk])
      | (refine AWP.condT ?_ ?_; (focus (simp [go_sem, h0, h0', h12', h3']; done)))
      | (refine AWP.condF ?_ ?_; (focus (simp [go_sem, h0, h0', h12', h3']; done)))
      | (apply AWP.rE; (focus (simp [go_sem, h0, h0', h12', h3']; exact ⟨rfl, rfl⟩)); try dsimp only [thn, inBlk])
      | fail)
    simp [bodyQ, thn, inBlk, resA, resV, go_sem]
  have h3' : (l == [46]) = false := by simpa using h3
  by_cases h4 : l = [46, 46]
  · have h4' : (l == [46, 46]) = true := by simpa using h4
    have e : nm l = false := by simp [nm, h4]
    rw [e]
    (repeat' first
      | refine AWP.seq ?_
      | refine AWP.block ?_
      | (refine AWP.skip ?_; try dsimp only [thn, inBlk])
      | (refine AWP.exit ?_; try simp only [thn, inBlk, if_true, reduceIte, Nat.reduceEqDiff])
      | (refine AWP.ret ?_; try dsimp only [thn, inBlk])
      | (refine AWP.condT ?_ ?_; (focus (simp [go_sem, h0, h0', h12', h3', h4']; done)))
      | (refine AWP.condF ?_ ?_; (focus (simp [go_sem, h0, h0', h12', h3', h4']; done)))
      | (apply AWP.rE; (focus (simp [go_sem, h0, h0', h12', h3', h4']; exact ⟨rfl, rfl⟩)); try dsimp only [thn, inBlk])
      | fail)
    simp [bodyQ, thn, inBlk, resA, resV, go_sem]
  have h4' : (l == [46, 46]) = false := by simpa using h4
  (repeat' first
    | refine AWP.seq ?_
    | refine AWP.block ?_
    | (refine AWP.skip ?_; try dsimp only [thn, inBlk])
    | (refine AWP.exit ?_; try simp only [thn, inBlk, if_true, reduceIte, Nat.reduceEqDiff])
    | (refine AWP.ret ?_; try dsimp only [thn, inBlk])
    | (refine AWP.condT ?_ ?_; (focus (simp [go_sem, h0, h0', h12', h3', h4']; done)))
    | (refine AWP.condF ?_ ?_; (focus (simp [go_sem, h0, h0', h12', h3', h4']; done)))
    | (apply AWP.rE; (focus (simp [go_sem, h0, h0', h12', h3', h4']; exact ⟨rfl, rfl⟩)); try dsimp only [thn, inBlk])
    | fail)
  refine AWP.loopR [0, 3] (fun m s h' => ∃ j : Nat, j ≤ l.length ∧ m = l.length - j ∧ s = ⟨64, [(0, tx l), (3, .int .i64 j)]⟩ ∧ (l.all okc = (l.drop j).all okc) ∧ h' = h) ?_ ?_
  · exact ⟨_, 0, by omega, rfl, rfl, rfl, rfl⟩
  rintro m s h1 ⟨j, hj, rfl, rfl, hI, rfl⟩
  by_cases hjm : j < l.length
  rotate_left
  · have hjm' : ¬ (j : Int) < l.length := by omega
    have ha : l.all okc = true := by rw [hI, List.drop_eq_nil_iff.2 (by omega)]; rfl
    have e : nm l = true := by
      have : l.length ≤ 12 := by omega
      simp [nm, ha, h0, this, h3, h4]
    rw [e]
    (repeat' first
      | refine AWP.seq ?_
      | refine AWP.block ?_
      | (refine AWP.skip ?_; try dsimp only [thn, inBlk])
      | (refine AWP.exit ?_; try simp only [thn, inBlk, if_true, reduceIte, Nat.reduceEqDiff])
      | (refine AWP.ret ?_; try dsimp only [thn, inBlk])
      | (refine AWP.condT ?_ ?_; (focus (simp [go_sem, hjm']; done)))
      | (refine AWP.condF ?_ ?_; (focus (simp [go_sem, hjm']; done)))
      | (apply AWP.rE; (focus (simp [go_sem, hjm']; exact ⟨rfl, rfl⟩)); try dsimp only [thn, inBlk])
      | fail)
    simp [bodyQ, thn, inBlk, resA, resV, go_sem]
  have hjm' : (j : Int) < l.length := by omega
  have x1 : indexP Tryd.prog 9 (tx l) (.int .i64 (j : Int)) = some (.int .u8 l[j].toNat) := str_index Tryd.underlying9 (by omega)
  have hdr : l.drop j = l[j] :: l.drop (j + 1) := List.drop_eq_getElem_cons hjm
  generalize l[j] = c at x1 hdr
  rw [hdr, List.all_cons] at hI
  have w1 : IntKind.i64.wrap ((j : Int) + 1) = ((j + 1 : Nat) : Int) := by rw [wI64 (by omega) (by omega)]; omega
  have hc255 := c.toNat_lt
  by_cases a1 : c.toNat ≤ 47
  · have f1 : (c.toNat : Int) < 97 := by omega
    have f3 : (c.toNat : Int) < 65 := by omega
    have f5 : (c.toNat : Int) < 48 := by omega
    have nl : letter c = false := by simp [letter]; omega
    by_cases e1 : c = 45
    · have hk : okc c = true := by rw [e1]; decide
      rw [hk, Bool.true_and] at hI
      have e1' : ((c.toNat : Int) != 45) = false := by rw [e1]; decide
      (repeat' first
        | refine AWP.seq ?_
        | refine AWP.block ?_
        | (refine AWP.skip ?_; try dsimp only [thn, inBlk])
        | (refine AWP.exit ?_; try simp only [thn, inBlk, if_true, reduceIte, Nat.reduceEqDiff])
        | (refine AWP.ret ?_; try dsimp only [thn, inBlk])
        | (refine AWP.condT ?_ ?_; (focus (simp [go_sem, hjm', x1, w1, f1, f3, f5, e1']; done)))
        | (refine AWP.condF ?_ ?_; (focus (simp [go_sem, hjm', x1, w1, f1, f3, f5, e1']; done)))
        | (apply AWP.rE; (focus (simp [go_sem, hjm', x1, w1, f1, f3, f5, e1']; exact ⟨rfl, rfl⟩)); try dsimp only [thn, inBlk])
        | fail)
      exact ⟨l.length - (j + 1), by omega, j + 1, by omega, rfl, by simp [go_sem], hI, rfl⟩
    have e1' : ((c.toNat : Int) != 45) = true := by
      have := neB (d := 45) e1; simp at this ⊢; omega
    by_cases e2 : c = 46
    · have hk : okc c = true := by rw [e2]; decide
      rw [hk, Bool.true_and] at hI
      have e2' : ((c.toNat : Int) != 46) = false := by rw [e2]; decide
      (repeat' first
        | refine AWP.seq ?_
        | refine AWP.block ?_
        | (refine AWP.skip ?_; try dsimp only [thn, inBlk])
        | (refine AWP.exit ?_; try simp only [thn, inBlk, if_true, reduceIte, Nat.reduceEqDiff])
        | (refine AWP.ret ?_; try dsimp only [thn, inBlk])
        | (refine AWP.condT ?_ ?_; (focus (simp [go_sem, hjm', x1, w1, f1, f3, f5, e1', e2']; done)))
        | (refine AWP.condF ?_ ?_; (focus (simp [go_sem, hjm', x1, w1, f1, f3, f5, e1', e2']; done)))
        | (apply AWP.rE; (focus (simp [go_sem, hjm', x1, w1, f1, f3, f5, e1', e2']; exact ⟨rfl, rfl⟩)); try dsimp only [thn, inBlk])
        | fail)
      exact ⟨l.length - (j + 1), by omega, j + 1, by omega, rfl, by simp [go_sem], hI, rfl⟩
    have e2' : ((c.toNat : Int) != 46) = true := by
      have := neB (d := 46) e2; simp at this ⊢; omega
    by_cases e3 : c = 95
    · have hk : okc c = true := by rw [e3]; decide
      rw [hk, Bool.true_and] at hI
      have e3' : ((c.toNat : Int) != 95) = false := by rw [e3]; decide
      (repeat' first
        | refine AWP.seq ?_
        | refine AWP.block ?_
        | (refine AWP.skip ?_; try dsimp only [thn, inBlk])
        | (refine AWP.exit ?_; try simp only [thn, inBlk, if_true, reduceIte, Nat.reduceEqDiff])
        | (refine AWP.ret ?_; try dsimp only [thn, inBlk])
        | (refine AWP.condT ?_ ?_; (focus (simp [go_sem, hjm', x1, w1, f1, f3, f5, e1', e2', e3']; done)))
        | (refine AWP.condF ?_ ?_; (focus (simp [go_sem, hjm', x1, w1, f1, f3, f5, e1', e2', e3']; done)))
        | (apply AWP.rE; (focus (simp [go_sem, hjm', x1, w1, f1, f3, f5, e1', e2', e3']; exact ⟨rfl, rfl⟩)); try dsimp only [thn, inBlk])
        | fail)
      exact ⟨l.length - (j + 1), by omega, j + 1, by omega, rfl, by simp [go_sem], hI, rfl⟩
    have e3' : ((c.toNat : Int) != 95) = true := by
      have := neB (d := 95) e3; simp at this ⊢; omega
    have hk : okc c = false := by simp [okc, nl, e1, e2, e3]
    rw [hk, Bool.false_and] at hI
    have e : nm l = false := by rw [nm, hI]; rfl
    rw [e]
    (repeat' first
      | refine AWP.seq ?_
      | refine AWP.block ?_
      | (refine AWP.skip ?_; try dsimp only [thn, inBlk])
      | (refine AWP.exit ?_; try simp only [thn, inBlk, if_true, reduceIte, Nat.reduceEqDiff])
      | (refine AWP.ret ?_; try dsimp only [thn, inBlk])
      | (refine AWP.condT ?_ ?_; (focus (simp [go_sem, hjm', x1, w1, f1, f3, f5, e1', e2', e3']; done)))
      | (refine AWP.condF ?_ ?_; (focus (simp [go_sem, hjm', x1, w1, f1, f3, f5, e1', e2', e3']; done)))
      | (apply AWP.rE; (focus (simp [go_sem, hjm', x1, w1, f1, f3, f5, e1', e2', e3']; exact ⟨rfl, rfl⟩)); try dsimp only [thn, inBlk])
      | fail)
    simp [bodyQ, thn, inBlk, resA, resV, go_sem]
  by_cases a2 : c.toNat ≤ 57
  · have f1 : (c.toNat : Int) < 97 := by omega
    have f3 : (c.toNat : Int) < 65 := by omega
    have f5 : ¬ (c.toNat : Int) < 48 := by omega
    have f6 : ¬ (57 : Int) < c.toNat := by omega
    have hk : okc c = true := by simp [okc, letter]; omega
    rw [hk, Bool.true_and] at hI
    (repeat' first
      | refine AWP.seq ?_
      | refine AWP.block ?_
      | (refine AWP.skip ?_; try dsimp only [thn, inBlk])
      | (refine AWP.exit ?_; try simp only [thn, inBlk, if_true, reduceIte, Nat.reduceEqDiff])
      | (refine AWP.ret ?_; try dsimp only [thn, inBlk])
      | (refine AWP.condT ?_ ?_; (focus (simp [go_sem, hjm', x1, w1, f1, f3, f5, f6]; done)))
      | (refine AWP.condF ?_ ?_; (focus (simp [go_sem, hjm', x1, w1, f1, f3, f5, f6]; done)))
      | (apply AWP.rE; (focus (simp [go_sem, hjm', x1, w1, f1, f3, f5, f6]; exact ⟨rfl, rfl⟩)); try dsimp only [thn, inBlk])
      | fail)
    exact ⟨l.length - (j + 1), by omega, j + 1, by omega, rfl, by simp [go_sem], hI, rfl⟩
  by_cases a3 : c.toNat ≤ 64
  · have f1 : (c.toNat : Int) < 97 := by omega
    have f3 : (c.toNat : Int) < 65 := by omega
    have f5 : ¬ (c.toNat : Int) < 48 := by omega
    have f6 : (57 : Int) < c.toNat := by omega
    have nl : letter c = false := by simp [letter]; omega
    by_cases e1 : c = 45
    · have hk : okc c = true := by rw [e1]; decide
      rw [hk, Bool.true_and] at hI
      have e1' : ((c.toNat : Int) != 45) = false := by rw [e1]; decide
      (repeat' first
        | refine AWP.seq ?_
        | refine AWP.block ?_
        | (refine AWP.skip ?_; try dsimp only [thn, inBlk])
        | (refine AWP.exit ?_; try simp only [thn, inBlk, if_true, reduceIte, Nat.reduceEqDiff])
        | (refine AWP.ret ?_; try dsimp only [thn, inBlk])
        | (refine AWP.condT ?_ ?_; (focus (simp [go_sem, hjm', x1, w1, f1, f3, f5, f6, e1']; done)))
        | (refine AWP.condF ?_ ?_; (focus (simp [go_sem, hjm', x1, w1, f1, f3, f5, f6, e1']; done)))
        | (apply AWP.rE; (focus (simp [go_sem, hjm', x1, w1, f1, f3, f5, f6, e1']; exact ⟨rfl, rfl⟩)); try dsimp only [thn, inBlk])
        | fail)
      exact ⟨l.length - (j + 1), by omega, j + 1, by omega, rfl, by simp [go_sem], hI, rfl⟩
    have e1' : ((c.toNat : Int) != 45) = true := by
      have := neB (d := 45) e1; simp at this ⊢; omega
    by_cases e2 : c = 46
    · have hk : okc c = true := by rw [e2]; decide
      rw [hk, Bool.true_and] at hI
      have e2' : ((c.toNat : Int) != 46) = false := by rw [e2]; decide
      (repeat' first
        | refine AWP.seq ?_
        | refine AWP.block ?_
        | (refine AWP.skip ?_; try dsimp only [thn, inBlk])
        | (refine AWP.exit ?_; try simp only [thn, inBlk, if_true, reduceIte, Nat.reduceEqDiff])
        | (refine AWP.ret ?_; try dsimp only [thn, inBlk])
        | (refine AWP.condT ?_ ?_; (focus (simp [go_sem, hjm', x1, w1, f1, f3, f5, f6, e1', e2']; done)))
        | (refine AWP.condF ?_ ?_; (focus (simp [go_sem, hjm', x1, w1, f1, f3, f5, f6, e1', e2']; done)))
        | (apply AWP.rE; (focus (simp [go_sem, hjm', x1, w1, f1, f3, f5, f6, e1', e2']; exact ⟨rfl, rfl⟩)); try dsimp only [thn, inBlk])
        | fail)
      exact ⟨l.length - (j + 1), by omega, j + 1, by omega, rfl, by simp [go_sem], hI, rfl⟩
    have e2' : ((c.toNat : Int) != 46) = true := by
      have := neB (d := 46) e2; simp at this ⊢; omega
    by_cases e3 : c = 95
    · have hk : okc c = true := by rw [e3]; decide
      rw [hk, Bool.true_and] at hI
      have e3' : ((c.toNat : Int) != 95) = false := by rw [e3]; decide
      (repeat' first
        | refine AWP.seq ?_
        | refine AWP.block ?_
        | (refine AWP.skip ?_; try dsimp only [thn, inBlk])
        | (refine AWP.exit ?_; try simp only [thn, inBlk, if_true, reduceIte, Nat.reduceEqDiff])
        | (refine AWP.ret ?_; try dsimp only [thn, inBlk])
        | (refine AWP.condT ?_ ?_; (focus (simp [go_sem, hjm', x1, w1, f1, f3, f5, f6, e1', e2', e3']; done)))
        | (refine AWP.condF ?_ ?_; (focus (simp [go_sem, hjm', x1, w1, f1, f3, f5, f6, e1', e2', e3']; done)))
        | (apply AWP.rE; (focus (simp [go_sem, hjm', x1, w1, f1, f3, f5, f6, e1', e2', e3']; exact ⟨rfl, rfl⟩)); try dsimp only [thn, inBlk])
        | fail)
      exact ⟨l.length - (j + 1), by omega, j + 1, by omega, rfl, by simp [go_sem], hI, rfl⟩
    have e3' : ((c.toNat : Int) != 95) = true := by
      have := neB (d := 95) e3; simp at this ⊢; omega
    have hk : okc c = false := by simp [okc, nl, e1, e2, e3]
    rw [hk, Bool.false_and] at hI
    have e : nm l = false := by rw [nm, hI]; rfl
    rw [e]
    (repeat' first
      | refine AWP.seq ?_
      | refine AWP.block ?_
      | (refine AWP.skip ?_; try dsimp only [thn, inBlk])
      | (refine AWP.exit ?_; try simp only [thn, inBlk, if_true, reduceIte, Nat.reduceEqDiff])
      | (refine AWP.ret ?_; try dsimp only [thn, inBlk])
      | (refine AWP.condT ?_ ?_; (focus (simp [go_sem, hjm', x1, w1, f1, f3, f5, f6, e1', e2', e3']; done)))
      | (refine AWP.condF ?_ ?_; (focus (simp [go_sem, hjm', x1, w1, f1, f3, f5, f6, e1', e2', e3']; done)))
      | (apply AWP.rE; (focus (simp [go_sem, hjm', x1, w1, f1, f3, f5, f6, e1', e2', e3']; exact ⟨rfl, rfl⟩)); try dsimp only [thn, inBlk])
      | fail)
    simp [bodyQ, thn, inBlk, resA, resV, go_sem]
  by_cases a4 : c.toNat ≤ 90
  · have f1 : (c.toNat : Int) < 97 := by omega
    have f3 : ¬ (c.toNat : Int) < 65 := by omega
    have f4 : ¬ (90 : Int) < c.toNat := by omega
    have hk : okc c = true := by simp [okc, letter]; omega
    rw [hk, Bool.true_and] at hI
    (repeat' first
      | refine AWP.seq ?_
      | refine AWP.block ?_
      | (refine AWP.skip ?_; try dsimp only [thn, inBlk])
      | (refine AWP.exit ?_; try simp only [thn, inBlk, if_true, reduceIte, Nat.reduceEqDiff])
      | (refine AWP.ret ?_; try dsimp only [thn, inBlk])
      | (refine AWP.condT ?_ ?_; (focus (simp [go_sem, hjm', x1, w1, f1, f3, f4]; done)))
      | (refine AWP.condF ?_ ?_; (focus (simp [go_sem, hjm', x1, w1, f1, f3, f4]; done)))
      | (apply AWP.rE; (focus (simp [go_sem, hjm', x1, w1, f1, f3, f4]; exact ⟨rfl, rfl⟩)); try dsimp only [thn, inBlk])
      | fail)
    exact ⟨l.length - (j + 1), by omega, j + 1, by omega, rfl, by simp [go_sem], hI, rfl⟩
  have f3 : ¬ (c.toNat : Int) < 65 := by omega
  have f4 : (90 : Int) < c.toNat := by omega
  have f5 : ¬ (c.toNat : Int) < 48 := by omega
  have f6 : (57 : Int) < c.toNat := by omega
  by_cases a5 : c.toNat ≤ 96
  · have f1 : (c.toNat : Int) < 97 := by omega
    have nl : letter c = false := by simp [letter]; omega
    by_cases e1 : c = 45
    · have hk : okc c = true := by rw [e1]; decide
      rw [hk, Bool.true_and] at hI
      have e1' : ((c.toNat : Int) != 45) = false := by rw [e1]; decide
      (repeat' first
        | refine AWP.seq ?_
        | refine AWP.block ?_
        | (refine AWP.skip ?_; try dsimp only [thn, inBlk])
        | (refine AWP.exit ?_; try simp only [thn, inBlk, if_true, reduceIte, Nat.reduceEqDiff])
        | (refine AWP.ret ?_; try dsimp only [thn, inBlk])
        | (refine AWP.condT ?_ ?_; (focus (simp [go_sem, hjm', x1, w1, f1, f3, f4, f5, f6, e1']; done)))
        | (refine AWP.condF ?_ ?_; (focus (simp [go_sem, hjm', x1, w1, f1, f3, f4, f5, f6, e1']; done)))
        | (apply AWP.rE; (focus (simp [go_sem, hjm', x1, w1, f1, f3, f4, f5, f6, e1']; exact ⟨rfl, rfl⟩)); try dsimp only [thn, inBlk])
        | fail)
      exact ⟨l.length - (j + 1), by omega, j + 1, by omega, rfl, by simp [go_sem], hI, rfl⟩
    have e1' : ((c.toNat : Int) != 45) = true := by
      have := neB (d := 45) e1; simp at this ⊢; omega
    by_cases e2 : c = 46
    · have hk : okc c = true := by rw [e2]; decide
      rw [hk, Bool.true_and] at hI
      have e2' : ((c.toNat : Int) != 46) = false := by rw [e2]; decide
      (repeat' first
        | refine AWP.seq ?_
        | refine AWP.block ?_
        | (refine AWP.skip ?_; try dsimp only [thn, inBlk])
        | (refine AWP.exit ?_; try simp only [thn, inBlk, if_true, reduceIte, Nat.reduceEqDiff])
        | (refine AWP.ret ?_; try dsimp only [thn, inBlk])
        | (refine AWP.condT ?_ ?_; (focus (simp [go_sem, hjm', x1, w1, f1, f3, f4, f5, f6, e1', e2']; done)))
        | (refine AWP.condF ?_ ?_; (focus (simp [go_sem, hjm', x1, w1, f1, f3, f4, f5, f6, e1', e2']; done)))
        | (apply AWP.rE; (focus (simp [go_sem, hjm', x1, w1, f1, f3, f4, f5, f6, e1', e2']; exact ⟨rfl, rfl⟩)); try dsimp only [thn, inBlk])
        | fail)
      exact ⟨l.length - (j + 1), by omega, j + 1, by omega, rfl, by simp [go_sem], hI, rfl⟩
    have e2' : ((c.toNat : Int) != 46) = true := by
      have := neB (d := 46) e2; simp at this ⊢; omega
    by_cases e3 : c = 95
    · have hk : okc c = true := by rw [e3]; decide
      rw [hk, Bool.true_and] at hI
      have e3' : ((c.toNat : Int) != 95) = false := by rw [e3]; decide
      (repeat' first
        | refine AWP.seq ?_
        | refine AWP.block ?_
        | (refine AWP.skip ?_; try dsimp only [thn, inBlk])
        | (refine AWP.exit ?_; try simp only [thn, inBlk, if_true, reduceIte, Nat.reduceEqDiff])
        | (refine AWP.ret ?_; try dsimp only [thn, inBlk])
        | (refine AWP.condT ?_ ?_; (focus (simp [go_sem, hjm', x1, w1, f1, f3, f4, f5, f6, e1', e2', e3']; done)))
        | (refine AWP.condF ?_ ?_; (focus (simp [go_sem, hjm', x1, w1, f1, f3, f4, f5, f6, e1', e2', e3']; done)))
        | (apply AWP.rE; (focus (simp [go_sem, hjm', x1, w1, f1, f3, f4, f5, f6, e1', e2', e3']; exact ⟨rfl, rfl⟩)); try dsimp only [thn, inBlk])
        | fail)
      exact ⟨l.length - (j + 1), by omega, j + 1, by omega, rfl, by simp [go_sem], hI, rfl⟩
    have e3' : ((c.toNat : Int) != 95) = true := by
      have := neB (d := 95) e3; simp at this ⊢; omega
    have hk : okc c = false := by simp [okc, nl, e1, e2, e3]
    rw [hk, Bool.false_and] at hI
    have e : nm l = false := by rw [nm, hI]; rfl
    rw [e]
    (repeat' first
      | refine AWP.seq ?_
      | refine AWP.block ?_
      | (refine AWP.skip ?_; try dsimp only [thn, inBlk])
      | (refine AWP.exit ?_; try simp only [thn, inBlk, if_true, reduceIte, Nat.reduceEqDiff])
      | (refine AWP.ret ?_; try dsimp only [thn, inBlk])
      | (refine AWP.condT ?_ ?_; (focus (simp [go_sem, hjm', x1, w1, f1, f3, f4, f5, f6, e1', e2', e3']; done)))
      | (refine AWP.condF ?_ ?_; (focus (simp [go_sem, hjm', x1, w1, f1, f3, f4, f5, f6, e1', e2', e3']; done)))
      | (apply AWP.rE; (focus (simp [go_sem, hjm', x1, w1, f1, f3, f4, f5, f6, e1', e2', e3']; exact ⟨rfl, rfl⟩)); try dsimp only [thn, inBlk])
      | fail)
    simp [bodyQ, thn, inBlk, resA, resV, go_sem]
  have f1 : ¬ (c.toNat : Int) < 97 := by omega
  by_cases a6 : c.toNat ≤ 122
  · have f2 : ¬ (122 : Int) < c.toNat := by omega
    have hk : okc c = true := by simp [okc, letter]; omega
    rw [hk, Bool.true_and] at hI
    (repeat' first
      | refine AWP.seq ?_
      | refine AWP.block ?_
      | (refine AWP.skip ?_; try dsimp only [thn, inBlk])
      | (refine AWP.exit ?_; try simp only [thn, inBlk, if_true, reduceIte, Nat.reduceEqDiff])
      | (refine AWP.ret ?_; try dsimp only [thn, inBlk])
      | (refine AWP.condT ?_ ?_; (focus (simp [go_sem, hjm', x1, w1, f1, f2]; done)))
      | (refine AWP.condF ?_ ?_; (focus (simp [go_sem, hjm', x1, w1, f1, f2]; done)))
      | (apply AWP.rE; (focus (simp [go_sem, hjm', x1, w1, f1, f2]; exact ⟨rfl, rfl⟩)); try dsimp only [thn, inBlk])
      | fail)
    exact ⟨l.length - (j + 1), by omega, j + 1, by omega, rfl, by simp [go_sem], hI, rfl⟩
  · have f2 : (122 : Int) < c.toNat := by omega
    have nl : letter c = false := by simp [letter]; omega
    by_cases e1 : c = 45
    · have hk : okc c = true := by rw [e1]; decide
      rw [hk, Bool.true_and] at hI
      have e1' : ((c.toNat : Int) != 45) = false := by rw [e1]; decide
      (repeat' first
        | refine AWP.seq ?_
        | refine AWP.block ?_
        | (refine AWP.skip ?_; try dsimp only [thn, inBlk])
        | (refine AWP.exit ?_; try simp only [thn, inBlk, if_true, reduceIte, Nat.reduceEqDiff])
        | (refine AWP.ret ?_; try dsimp only [thn, inBlk])
        | (refine AWP.condT ?_ ?_; (focus (simp [go_sem, hjm', x1, w1, f1, f2, f3, f4, f5, f6, e1']; done)))
        | (refine AWP.condF ?_ ?_; (focus (simp [go_sem, hjm', x1, w1, f1, f2, f3, f4, f5, f6, e1']; done)))
        | (apply AWP.rE; (focus (simp [go_sem, hjm', x1, w1, f1, f2, f3, f4, f5, f6, e1']; exact ⟨rfl, rfl⟩)); try dsimp only [thn, inBlk])
        | fail)
      exact ⟨l.length - (j + 1), by omega, j + 1, by omega, rfl, by simp [go_sem], hI, rfl⟩
    have e1' : ((c.toNat : Int) != 45) = true := by
      have := neB (d := 45) e1; simp at this ⊢; omega
    by_cases e2 : c = 46
    · have hk : okc c = true := by rw [e2]; decide
      rw [hk, Bool.true_and] at hI
      have e2' : ((c.toNat : Int) != 46) = false := by rw [e2]; decide
      (repeat' first
        | refine AWP.seq ?_
        | refine AWP.block ?_
        | (refine AWP.skip ?_; try dsimp only [thn, inBlk])
        | (refine AWP.exit ?_; try simp only [thn, inBlk, if_true, reduceIte, Nat.reduceEqDiff])
        | (refine AWP.ret ?_; try dsimp only [thn, inBlk])
        | (refine AWP.condT ?_ ?_; (focus (simp [go_sem, hjm', x1, w1, f1, f2, f3, f4, f5, f6, e1', e2']; done)))
        | (refine AWP.condF ?_ ?_; (focus (simp [go_sem, hjm', x1, w1, f1, f2, f3, f4, f5, f6, e1', e2']; done)))
        | (apply AWP.rE; (focus (simp [go_sem, hjm', x1, w1, f1, f2, f3, f4, f5, f6, e1', e2']; exact ⟨rfl, rfl⟩)); try dsimp only [thn, inBlk])
        | fail)
      exact ⟨l.length - (j + 1), by omega, j + 1, by omega, rfl, by simp [go_sem], hI, rfl⟩
    have e2' : ((c.toNat : Int) != 46) = true := by
      have := neB (d := 46) e2; simp at this ⊢; omega
    by_cases e3 : c = 95
    · have hk : okc c = true := by rw [e3]; decide
      rw [hk, Bool.true_and] at hI
      have e3' : ((c.toNat : Int) != 95) = false := by rw [e3]; decide
      (repeat' first
        | refine AWP.seq ?_
        | refine AWP.block ?_
        | (refine AWP.skip ?_; try dsimp only [thn, inBlk])
        | (refine AWP.exit ?_; try simp only [thn, inBlk, if_true, reduceIte, Nat.reduceEqDiff])
        | (refine AWP.ret ?_; try dsimp only [thn, inBlk])
        | (refine AWP.condT ?_ ?_; (focus (simp [go_sem, hjm', x1, w1, f1, f2, f3, f4, f5, f6, e1', e2', e3']; done)))
        | (refine AWP.condF ?_ ?_; (focus (simp [go_sem, hjm', x1, w1, f1, f2, f3, f4, f5, f6, e1', e2', e3']; done)))
        | (apply AWP.rE; (focus (simp [go_sem, hjm', x1, w1, f1, f2, f3, f4, f5, f6, e1', e2', e3']; exact ⟨rfl, rfl⟩)); try dsimp only [thn, inBlk])
        | fail)
      exact ⟨l.length - (j + 1), by omega, j + 1, by omega, rfl, by simp [go_sem], hI, rfl⟩
    have e3' : ((c.toNat : Int) != 95) = true := by
      have := neB (d := 95) e3; simp at this ⊢; omega
    have hk : okc c = false := by simp [okc, nl, e1, e2, e3]
    rw [hk, Bool.false_and] at hI
    have e : nm l = false := by rw [nm, hI]; rfl
    rw [e]
    (repeat' first
      | refine AWP.seq ?_
      | refine AWP.block ?_
      | (refine AWP.skip ?_; try dsimp only [thn, inBlk])
      | (refine AWP.exit ?_; try simp only [thn, inBlk, if_true, reduceIte, Nat.reduceEqDiff])
      | (refine AWP.ret ?_; try dsimp only [thn, inBlk])
      | (refine AWP.condT ?_ ?_; (focus (simp [go_sem, hjm', x1, w1, f1, f2, f3, f4, f5, f6, e1', e2', e3']; done)))
      | (refine AWP.condF ?_ ?_; (focus (simp [go_sem, hjm', x1, w1, f1, f2, f3, f4, f5, f6, e1', e2', e3']; done)))
      | (apply AWP.rE; (focus (simp [go_sem, hjm', x1, w1, f1, f2, f3, f4, f5, f6, e1', e2', e3']; exact ⟨rfl, rfl⟩)); try dsimp only [thn, inBlk])
      | fail)
    simp [bodyQ, thn, inBlk, resA, resV, go_sem]
end L19
