import Derived.Test.YtfnlbcifdopnhaaDoorL11o
open Go Ab Go.Proofs
namespace L11
set_option autoImplicit false
set_option linter.unusedSimpArgs false
set_option linter.unusedVariables false

/-! ### The document's names -/
set_option maxHeartbeats 8000000 in
theorem rpart_calls {h : AHeap} {l : List UInt8} (hm : l.length ≤ 1000000) : ACalls Tryd.prog 69 #[tx l] h fun r h' => r = .bool (partB l) ∧ h' = h := by
  refine ACalls.of_awp (args := [tx l]) (n := 63) Tryd.func69 rfl rfl (by show 1 ≤ 63; omega) ?_
  by_cases h0 : l = []
  · subst h0
    (repeat' first
      | refine AWP.seq ?_
      | refine AWP.block ?_
      | (refine AWP.skip ?_; try dsimp only [thn, inBlk])
      | (refine AWP.exit ?_; try simp only [thn, inBlk, if_true, reduceIte, Nat.reduceEqDiff])
      | (refine AWP.ret ?_; try dsimp only [thn, inBlk])
      | (refine AWP.condT ?_ ?_; (focus (simp [go_sem]; done)))
      | (refine AWP.condF ?_ ?_; (focus (simp [go_sem]; done)))
      | (apply AWP.rE; (focus (simp [go_sem]; exact ⟨rfl, rfl⟩)); try dsimp only [thn, inBlk])
      | fail)
    simp [bodyQ, thn, inBlk, resA, resV, go_sem]
    rfl
  have hl0 : l.length ≠ 0 := by simpa using h0
  have h0' : ¬ (l.length : Int) < 1 := by omega
  have h0n : (l == []) = false := by simpa using h0
  by_cases h16 : 16 < l.length
  · have h16' : (16 : Int) < l.length := by omega
    have e : partB l = false := by
      have : ¬ l.length ≤ 16 := by omega
      simp [partB, this]
    rw [e]
    (repeat' first
      | refine AWP.seq ?_
      | refine AWP.block ?_
      | (refine AWP.skip ?_; try dsimp only [thn, inBlk])
      | (refine AWP.exit ?_; try simp only [thn, inBlk, if_true, reduceIte, Nat.reduceEqDiff])
      | (refine AWP.ret ?_; try dsimp only [thn, inBlk])
      | (refine AWP.condT ?_ ?_; (focus (simp [go_sem, h0, h0', h16']; done)))
      | (refine AWP.condF ?_ ?_; (focus (simp [go_sem, h0, h0', h16']; done)))
      | (apply AWP.rE; (focus (simp [go_sem, h0, h0', h16']; exact ⟨rfl, rfl⟩)); try dsimp only [thn, inBlk])
      | fail)
    simp [bodyQ, thn, inBlk, resA, resV, go_sem]
  have h16' : ¬ (16 : Int) < l.length := by omega
  (repeat' first
    | refine AWP.seq ?_
    | refine AWP.block ?_
    | (refine AWP.skip ?_; try dsimp only [thn, inBlk])
    | (refine AWP.exit ?_; try simp only [thn, inBlk, if_true, reduceIte, Nat.reduceEqDiff])
    | (refine AWP.ret ?_; try dsimp only [thn, inBlk])
    | (refine AWP.condT ?_ ?_; (focus (simp [go_sem, h0, h0', h16']; done)))
    | (refine AWP.condF ?_ ?_; (focus (simp [go_sem, h0, h0', h16']; done)))
    | (apply AWP.rE; (focus (simp [go_sem, h0, h0', h16']; exact ⟨rfl, rfl⟩)); try dsimp only [thn, inBlk])
    | fail)
  refine AWP.loopR [0, 3] (fun m s h' => ∃ j : Nat, j ≤ l.length ∧ m = l.length - j ∧ s = ⟨63, [(0, tx l), (3, .int .i64 j)]⟩ ∧ (l.all plc = (l.drop j).all plc) ∧ h' = h) ?_ ?_
  · exact ⟨_, 0, by omega, rfl, rfl, rfl, rfl⟩
  rintro m s h1 ⟨j, hj, rfl, rfl, hI, rfl⟩
  by_cases hjm : j < l.length
  rotate_left
  · have hjm' : ¬ (j : Int) < l.length := by omega
    have ha : l.all plc = true := by rw [hI, List.drop_eq_nil_iff.2 (by omega)]; rfl
    have e : partB l = true := by
      have : l.length ≤ 16 := by omega
      simp [partB, ha, h0, this]
    rw [e]
    (repeat' first
      | refine AWP.seq ?_
      | refine AWP.block ?_
      | (refine AWP.skip ?_; try dsimp only [thn, inBlk])
      | (refine AWP.exit ?_; try simp only [thn, inBlk, if_true, reduceIte, Nat.reduceEqDiff])
      | (refine AWP.ret ?_; try dsimp only [thn, inBlk])
      | (refine AWP.condT ?_ ?_; (focus (simp [go_sem, hjm']; done)))
      | (refine AWP.condF ?_ ?_; (focus (simp [go_sem, hjm']; done)))
      | (apply AWP.rE; (focus (simp [go_sem, hjm']; exact ⟨rfl, rfl⟩)); try dsimp only [thn, inBlk])
      | fail)
    simp [bodyQ, thn, inBlk, resA, resV, go_sem]
  have hjm' : (j : Int) < l.length := by omega
  have x1 : indexP Tryd.prog 9 (tx l) (.int .i64 (j : Int)) = some (.int .u8 l[j].toNat) := str_index Tryd.underlying9 (by omega)
  have hdr : l.drop j = l[j] :: l.drop (j + 1) := List.drop_eq_getElem_cons hjm
  generalize l[j] = c at x1 hdr
  rw [hdr, List.all_cons] at hI
  have w1 : IntKind.i64.wrap ((j : Int) + 1) = ((j + 1 : Nat) : Int) := by rw [wI64 (by omega) (by omega)]; omega
  have hc255 := c.toNat_lt
  (repeat' first
    | refine AWP.seq ?_
    | refine AWP.block ?_
    | (refine AWP.skip ?_; try dsimp only [thn, inBlk])
    | (refine AWP.exit ?_; try simp only [thn, inBlk, if_true, reduceIte, Nat.reduceEqDiff])
    | (refine AWP.ret ?_; try dsimp only [thn, inBlk])
    | (refine AWP.condT ?_ ?_; (focus (simp [go_sem, hjm', x1]; done)))
    | (refine AWP.condF ?_ ?_; (focus (simp [go_sem, hjm', x1]; done)))
    | (apply AWP.rE; (focus (simp [go_sem, hjm', x1]; exact ⟨rfl, rfl⟩)); try dsimp only [thn, inBlk])
    | fail)
  refine AWP.cutT [0, 3, 5] (fun s hh => s = ⟨63, [(0, tx l), (3, .int .i64 j), (5, .bool (plc c))]⟩ ∧ hh = h1) ?_ ?_
  · by_cases b1 : (65 : Int) ≤ c.toNat
    · by_cases b2 : (c.toNat : Int) ≤ 90
      · have b9 : True := trivial
        have e : plc c = true := by simp [plc, letter]; omega
        rw [e]
        (repeat' first
          | refine AWP.seq ?_
          | refine AWP.block ?_
          | (refine AWP.skip ?_; try dsimp only [thn, inBlk])
          | (refine AWP.exit ?_; try simp only [thn, inBlk, if_true, reduceIte, Nat.reduceEqDiff])
          | (refine AWP.ret ?_; try dsimp only [thn, inBlk])
          | (refine AWP.condT ?_ ?_; (focus (simp [go_sem, b1, b2]; done)))
          | (refine AWP.condF ?_ ?_; (focus (simp [go_sem, b1, b2]; done)))
          | (apply AWP.rE; (focus (simp [go_sem, b1, b2]; exact ⟨rfl, rfl⟩)); try dsimp only [thn, inBlk])
          | fail)
        exact ⟨by simp [go_sem], rfl⟩
      by_cases b3 : (97 : Int) ≤ c.toNat
      · by_cases b4 : (c.toNat : Int) ≤ 122
        · have b9 : True := trivial
          have e : plc c = true := by simp [plc, letter]; omega
          rw [e]
          (repeat' first
            | refine AWP.seq ?_
            | refine AWP.block ?_
            | (refine AWP.skip ?_; try dsimp only [thn, inBlk])
            | (refine AWP.exit ?_; try simp only [thn, inBlk, if_true, reduceIte, Nat.reduceEqDiff])
            | (refine AWP.ret ?_; try dsimp only [thn, inBlk])
            | (refine AWP.condT ?_ ?_; (focus (simp [go_sem, b1, b2, b3, b4]; done)))
            | (refine AWP.condF ?_ ?_; (focus (simp [go_sem, b1, b2, b3, b4]; done)))
            | (apply AWP.rE; (focus (simp [go_sem, b1, b2, b3, b4]; exact ⟨rfl, rfl⟩)); try dsimp only [thn, inBlk])
            | fail)
          exact ⟨by simp [go_sem], rfl⟩
        · have b5 : (48 : Int) ≤ c.toNat := by omega
          have b6 : ¬ (c.toNat : Int) ≤ 57 := by omega
          have nl : letter c = false := by simp [letter]; omega
          by_cases c1 : c = 45
          · subst c1
            have e : plc 45 = true := by decide
            rw [e]
            (repeat' first
              | refine AWP.seq ?_
              | refine AWP.block ?_
              | (refine AWP.skip ?_; try dsimp only [thn, inBlk])
              | (refine AWP.exit ?_; try simp only [thn, inBlk, if_true, reduceIte, Nat.reduceEqDiff])
              | (refine AWP.ret ?_; try dsimp only [thn, inBlk])
              | (refine AWP.condT ?_ ?_; (focus (simp [go_sem, b1, b2, b3, b4, b5, b6]; done)))
              | (refine AWP.condF ?_ ?_; (focus (simp [go_sem, b1, b2, b3, b4, b5, b6]; done)))
              | (apply AWP.rE; (focus (simp [go_sem, b1, b2, b3, b4, b5, b6]; exact ⟨rfl, rfl⟩)); try dsimp only [thn, inBlk])
              | fail)
            exact ⟨by simp [go_sem], rfl⟩
          have c1' : ((c.toNat : Int) == 45) = false := by have := neB (d := 45) c1; simp at this ⊢; omega
          by_cases c2 : c = 46
          · subst c2
            have e : plc 46 = true := by decide
            rw [e]
            (repeat' first
              | refine AWP.seq ?_
              | refine AWP.block ?_
              | (refine AWP.skip ?_; try dsimp only [thn, inBlk])
              | (refine AWP.exit ?_; try simp only [thn, inBlk, if_true, reduceIte, Nat.reduceEqDiff])
              | (refine AWP.ret ?_; try dsimp only [thn, inBlk])
              | (refine AWP.condT ?_ ?_; (focus (simp [go_sem, b1, b2, b3, b4, b5, b6]; done)))
              | (refine AWP.condF ?_ ?_; (focus (simp [go_sem, b1, b2, b3, b4, b5, b6]; done)))
              | (apply AWP.rE; (focus (simp [go_sem, b1, b2, b3, b4, b5, b6]; exact ⟨rfl, rfl⟩)); try dsimp only [thn, inBlk])
              | fail)
            exact ⟨by simp [go_sem], rfl⟩
          have c2' : ((c.toNat : Int) == 46) = false := by have := neB (d := 46) c2; simp at this ⊢; omega
          by_cases c3 : c = 95
          · subst c3
            have e : plc 95 = true := by decide
            rw [e]
            (repeat' first
              | refine AWP.seq ?_
              | refine AWP.block ?_
              | (refine AWP.skip ?_; try dsimp only [thn, inBlk])
              | (refine AWP.exit ?_; try simp only [thn, inBlk, if_true, reduceIte, Nat.reduceEqDiff])
              | (refine AWP.ret ?_; try dsimp only [thn, inBlk])
              | (refine AWP.condT ?_ ?_; (focus (simp [go_sem, b1, b2, b3, b4, b5, b6]; done)))
              | (refine AWP.condF ?_ ?_; (focus (simp [go_sem, b1, b2, b3, b4, b5, b6]; done)))
              | (apply AWP.rE; (focus (simp [go_sem, b1, b2, b3, b4, b5, b6]; exact ⟨rfl, rfl⟩)); try dsimp only [thn, inBlk])
              | fail)
            exact ⟨by simp [go_sem], rfl⟩
          have c3' : ((c.toNat : Int) == 95) = false := by have := neB (d := 95) c3; simp at this ⊢; omega
          by_cases c4 : c = 43
          · subst c4
            have e : plc 43 = true := by decide
            rw [e]
            (repeat' first
              | refine AWP.seq ?_
              | refine AWP.block ?_
              | (refine AWP.skip ?_; try dsimp only [thn, inBlk])
              | (refine AWP.exit ?_; try simp only [thn, inBlk, if_true, reduceIte, Nat.reduceEqDiff])
              | (refine AWP.ret ?_; try dsimp only [thn, inBlk])
              | (refine AWP.condT ?_ ?_; (focus (simp [go_sem, b1, b2, b3, b4, b5, b6]; done)))
              | (refine AWP.condF ?_ ?_; (focus (simp [go_sem, b1, b2, b3, b4, b5, b6]; done)))
              | (apply AWP.rE; (focus (simp [go_sem, b1, b2, b3, b4, b5, b6]; exact ⟨rfl, rfl⟩)); try dsimp only [thn, inBlk])
              | fail)
            exact ⟨by simp [go_sem], rfl⟩
          have c4' : ((c.toNat : Int) == 43) = false := by have := neB (d := 43) c4; simp at this ⊢; omega
          have e : plc c = false := by simp [plc, nl, c1, c2, c3, c4]
          rw [e]
          (repeat' first
            | refine AWP.seq ?_
            | refine AWP.block ?_
            | (refine AWP.skip ?_; try dsimp only [thn, inBlk])
            | (refine AWP.exit ?_; try simp only [thn, inBlk, if_true, reduceIte, Nat.reduceEqDiff])
            | (refine AWP.ret ?_; try dsimp only [thn, inBlk])
            | (refine AWP.condT ?_ ?_; (focus (simp [go_sem, b1, b2, b3, b4, b5, b6, c1', c2', c3', c4']; done)))
            | (refine AWP.condF ?_ ?_; (focus (simp [go_sem, b1, b2, b3, b4, b5, b6, c1', c2', c3', c4']; done)))
            | (apply AWP.rE; (focus (simp [go_sem, b1, b2, b3, b4, b5, b6, c1', c2', c3', c4']; exact ⟨rfl, rfl⟩)); try dsimp only [thn, inBlk])
            | fail)
          exact ⟨by simp [go_sem], rfl⟩
      · have b5 : (48 : Int) ≤ c.toNat := by omega
        have b6 : ¬ (c.toNat : Int) ≤ 57 := by omega
        have nl : letter c = false := by simp [letter]; omega
        by_cases c1 : c = 45
        · subst c1
          have e : plc 45 = true := by decide
          rw [e]
          (repeat' first
            | refine AWP.seq ?_
            | refine AWP.block ?_
            | (refine AWP.skip ?_; try dsimp only [thn, inBlk])
            | (refine AWP.exit ?_; try simp only [thn, inBlk, if_true, reduceIte, Nat.reduceEqDiff])
            | (refine AWP.ret ?_; try dsimp only [thn, inBlk])
            | (refine AWP.condT ?_ ?_; (focus (simp [go_sem, b1, b2, b3, b5, b6]; done)))
            | (refine AWP.condF ?_ ?_; (focus (simp [go_sem, b1, b2, b3, b5, b6]; done)))
            | (apply AWP.rE; (focus (simp [go_sem, b1, b2, b3, b5, b6]; exact ⟨rfl, rfl⟩)); try dsimp only [thn, inBlk])
            | fail)
          exact ⟨by simp [go_sem], rfl⟩
        have c1' : ((c.toNat : Int) == 45) = false := by have := neB (d := 45) c1; simp at this ⊢; omega
        by_cases c2 : c = 46
        · subst c2
          have e : plc 46 = true := by decide
          rw [e]
          (repeat' first
            | refine AWP.seq ?_
            | refine AWP.block ?_
            | (refine AWP.skip ?_; try dsimp only [thn, inBlk])
            | (refine AWP.exit ?_; try simp only [thn, inBlk, if_true, reduceIte, Nat.reduceEqDiff])
            | (refine AWP.ret ?_; try dsimp only [thn, inBlk])
            | (refine AWP.condT ?_ ?_; (focus (simp [go_sem, b1, b2, b3, b5, b6]; done)))
            | (refine AWP.condF ?_ ?_; (focus (simp [go_sem, b1, b2, b3, b5, b6]; done)))
            | (apply AWP.rE; (focus (simp [go_sem, b1, b2, b3, b5, b6]; exact ⟨rfl, rfl⟩)); try dsimp only [thn, inBlk])
            | fail)
          exact ⟨by simp [go_sem], rfl⟩
        have c2' : ((c.toNat : Int) == 46) = false := by have := neB (d := 46) c2; simp at this ⊢; omega
        by_cases c3 : c = 95
        · subst c3
          have e : plc 95 = true := by decide
          rw [e]
          (repeat' first
            | refine AWP.seq ?_
            | refine AWP.block ?_
            | (refine AWP.skip ?_; try dsimp only [thn, inBlk])
            | (refine AWP.exit ?_; try simp only [thn, inBlk, if_true, reduceIte, Nat.reduceEqDiff])
            | (refine AWP.ret ?_; try dsimp only [thn, inBlk])
            | (refine AWP.condT ?_ ?_; (focus (simp [go_sem, b1, b2, b3, b5, b6]; done)))
            | (refine AWP.condF ?_ ?_; (focus (simp [go_sem, b1, b2, b3, b5, b6]; done)))
            | (apply AWP.rE; (focus (simp [go_sem, b1, b2, b3, b5, b6]; exact ⟨rfl, rfl⟩)); try dsimp only [thn, inBlk])
            | fail)
          exact ⟨by simp [go_sem], rfl⟩
        have c3' : ((c.toNat : Int) == 95) = false := by have := neB (d := 95) c3; simp at this ⊢; omega
        by_cases c4 : c = 43
        · subst c4
          have e : plc 43 = true := by decide
          rw [e]
          (repeat' first
            | refine AWP.seq ?_
            | refine AWP.block ?_
            | (refine AWP.skip ?_; try dsimp only [thn, inBlk])
            | (refine AWP.exit ?_; try simp only [thn, inBlk, if_true, reduceIte, Nat.reduceEqDiff])
            | (refine AWP.ret ?_; try dsimp only [thn, inBlk])
            | (refine AWP.condT ?_ ?_; (focus (simp [go_sem, b1, b2, b3, b5, b6]; done)))
            | (refine AWP.condF ?_ ?_; (focus (simp [go_sem, b1, b2, b3, b5, b6]; done)))
            | (apply AWP.rE; (focus (simp [go_sem, b1, b2, b3, b5, b6]; exact ⟨rfl, rfl⟩)); try dsimp only [thn, inBlk])
            | fail)
          exact ⟨by simp [go_sem], rfl⟩
        have c4' : ((c.toNat : Int) == 43) = false := by have := neB (d := 43) c4; simp at this ⊢; omega
        have e : plc c = false := by simp [plc, nl, c1, c2, c3, c4]
        rw [e]
        (repeat' first
          | refine AWP.seq ?_
          | refine AWP.block ?_
          | (refine AWP.skip ?_; try dsimp only [thn, inBlk])
          | (refine AWP.exit ?_; try simp only [thn, inBlk, if_true, reduceIte, Nat.reduceEqDiff])
          | (refine AWP.ret ?_; try dsimp only [thn, inBlk])
          | (refine AWP.condT ?_ ?_; (focus (simp [go_sem, b1, b2, b3, b5, b6, c1', c2', c3', c4']; done)))
          | (refine AWP.condF ?_ ?_; (focus (simp [go_sem, b1, b2, b3, b5, b6, c1', c2', c3', c4']; done)))
          | (apply AWP.rE; (focus (simp [go_sem, b1, b2, b3, b5, b6, c1', c2', c3', c4']; exact ⟨rfl, rfl⟩)); try dsimp only [thn, inBlk])
          | fail)
        exact ⟨by simp [go_sem], rfl⟩
    · have b3 : ¬ (97 : Int) ≤ c.toNat := by omega
      by_cases b5 : (48 : Int) ≤ c.toNat
      · by_cases b6 : (c.toNat : Int) ≤ 57
        · have b9 : True := trivial
          have e : plc c = true := by simp [plc, letter]; omega
          rw [e]
          (repeat' first
            | refine AWP.seq ?_
            | refine AWP.block ?_
            | (refine AWP.skip ?_; try dsimp only [thn, inBlk])
            | (refine AWP.exit ?_; try simp only [thn, inBlk, if_true, reduceIte, Nat.reduceEqDiff])
            | (refine AWP.ret ?_; try dsimp only [thn, inBlk])
            | (refine AWP.condT ?_ ?_; (focus (simp [go_sem, b1, b3, b5, b6]; done)))
            | (refine AWP.condF ?_ ?_; (focus (simp [go_sem, b1, b3, b5, b6]; done)))
            | (apply AWP.rE; (focus (simp [go_sem, b1, b3, b5, b6]; exact ⟨rfl, rfl⟩)); try dsimp only [thn, inBlk])
            | fail)
          exact ⟨by simp [go_sem], rfl⟩
        · have b9 : True := trivial
          have nl : letter c = false := by simp [letter]; omega
          by_cases c1 : c = 45
          · subst c1
            have e : plc 45 = true := by decide
            rw [e]
            (repeat' first
              | refine AWP.seq ?_
              | refine AWP.block ?_
              | (refine AWP.skip ?_; try dsimp only [thn, inBlk])
              | (refine AWP.exit ?_; try simp only [thn, inBlk, if_true, reduceIte, Nat.reduceEqDiff])
              | (refine AWP.ret ?_; try dsimp only [thn, inBlk])
              | (refine AWP.condT ?_ ?_; (focus (simp [go_sem, b1, b3, b5, b6]; done)))
              | (refine AWP.condF ?_ ?_; (focus (simp [go_sem, b1, b3, b5, b6]; done)))
              | (apply AWP.rE; (focus (simp [go_sem, b1, b3, b5, b6]; exact ⟨rfl, rfl⟩)); try dsimp only [thn, inBlk])
              | fail)
            exact ⟨by simp [go_sem], rfl⟩
          have c1' : ((c.toNat : Int) == 45) = false := by have := neB (d := 45) c1; simp at this ⊢; omega
          by_cases c2 : c = 46
          · subst c2
            have e : plc 46 = true := by decide
            rw [e]
            (repeat' first
              | refine AWP.seq ?_
              | refine AWP.block ?_
              | (refine AWP.skip ?_; try dsimp only [thn, inBlk])
              | (refine AWP.exit ?_; try simp only [thn, inBlk, if_true, reduceIte, Nat.reduceEqDiff])
              | (refine AWP.ret ?_; try dsimp only [thn, inBlk])
              | (refine AWP.condT ?_ ?_; (focus (simp [go_sem, b1, b3, b5, b6]; done)))
              | (refine AWP.condF ?_ ?_; (focus (simp [go_sem, b1, b3, b5, b6]; done)))
              | (apply AWP.rE; (focus (simp [go_sem, b1, b3, b5, b6]; exact ⟨rfl, rfl⟩)); try dsimp only [thn, inBlk])
              | fail)
            exact ⟨by simp [go_sem], rfl⟩
          have c2' : ((c.toNat : Int) == 46) = false := by have := neB (d := 46) c2; simp at this ⊢; omega
          by_cases c3 : c = 95
          · subst c3
            have e : plc 95 = true := by decide
            rw [e]
            (repeat' first
              | refine AWP.seq ?_
              | refine AWP.block ?_
              | (refine AWP.skip ?_; try dsimp only [thn, inBlk])
              | (refine AWP.exit ?_; try simp only [thn, inBlk, if_true, reduceIte, Nat.reduceEqDiff])
              | (refine AWP.ret ?_; try dsimp only [thn, inBlk])
              | (refine AWP.condT ?_ ?_; (focus (simp [go_sem, b1, b3, b5, b6]; done)))
              | (refine AWP.condF ?_ ?_; (focus (simp [go_sem, b1, b3, b5, b6]; done)))
              | (apply AWP.rE; (focus (simp [go_sem, b1, b3, b5, b6]; exact ⟨rfl, rfl⟩)); try dsimp only [thn, inBlk])
              | fail)
            exact ⟨by simp [go_sem], rfl⟩
          have c3' : ((c.toNat : Int) == 95) = false := by have := neB (d := 95) c3; simp at this ⊢; omega
          by_cases c4 : c = 43
          · subst c4
            have e : plc 43 = true := by decide
            rw [e]
            (repeat' first
              | refine AWP.seq ?_
              | refine AWP.block ?_
              | (refine AWP.skip ?_; try dsimp only [thn, inBlk])
              | (refine AWP.exit ?_; try simp only [thn, inBlk, if_true, reduceIte, Nat.reduceEqDiff])
              | (refine AWP.ret ?_; try dsimp only [thn, inBlk])
              | (refine AWP.condT ?_ ?_; (focus (simp [go_sem, b1, b3, b5, b6]; done)))
              | (refine AWP.condF ?_ ?_; (focus (simp [go_sem, b1, b3, b5, b6]; done)))
              | (apply AWP.rE; (focus (simp [go_sem, b1, b3, b5, b6]; exact ⟨rfl, rfl⟩)); try dsimp only [thn, inBlk])
              | fail)
            exact ⟨by simp [go_sem], rfl⟩
          have c4' : ((c.toNat : Int) == 43) = false := by have := neB (d := 43) c4; simp at this ⊢; omega
          have e : plc c = false := by simp [plc, nl, c1, c2, c3, c4]
          rw [e]
          (repeat' first
            | refine AWP.seq ?_
            | refine AWP.block ?_
            | (refine AWP.skip ?_; try dsimp only [thn, inBlk])
            | (refine AWP.exit ?_; try simp only [thn, inBlk, if_true, reduceIte, Nat.reduceEqDiff])
            | (refine AWP.ret ?_; try dsimp only [thn, inBlk])
            | (refine AWP.condT ?_ ?_; (focus (simp [go_sem, b1, b3, b5, b6, c1', c2', c3', c4']; done)))
            | (refine AWP.condF ?_ ?_; (focus (simp [go_sem, b1, b3, b5, b6, c1', c2', c3', c4']; done)))
            | (apply AWP.rE; (focus (simp [go_sem, b1, b3, b5, b6, c1', c2', c3', c4']; exact ⟨rfl, rfl⟩)); try dsimp only [thn, inBlk])
            | fail)
          exact ⟨by simp [go_sem], rfl⟩
      · have b9 : True := trivial
        have nl : letter c = false := by simp [letter]; omega
        by_cases c1 : c = 45
        · subst c1
          have e : plc 45 = true := by decide
          rw [e]
          (repeat' first
            | refine AWP.seq ?_
            | refine AWP.block ?_
            | (refine AWP.skip ?_; try dsimp only [thn, inBlk])
            | (refine AWP.exit ?_; try simp only [thn, inBlk, if_true, reduceIte, Nat.reduceEqDiff])
            | (refine AWP.ret ?_; try dsimp only [thn, inBlk])
            | (refine AWP.condT ?_ ?_; (focus (simp [go_sem, b1, b3, b5]; done)))
            | (refine AWP.condF ?_ ?_; (focus (simp [go_sem, b1, b3, b5]; done)))
            | (apply AWP.rE; (focus (simp [go_sem, b1, b3, b5]; exact ⟨rfl, rfl⟩)); try dsimp only [thn, inBlk])
            | fail)
          exact ⟨by simp [go_sem], rfl⟩
        have c1' : ((c.toNat : Int) == 45) = false := by have := neB (d := 45) c1; simp at this ⊢; omega
        by_cases c2 : c = 46
        · subst c2
          have e : plc 46 = true := by decide
          rw [e]
          (repeat' first
            | refine AWP.seq ?_
            | refine AWP.block ?_
            | (refine AWP.skip ?_; try dsimp only [thn, inBlk])
            | (refine AWP.exit ?_; try simp only [thn, inBlk, if_true, reduceIte, Nat.reduceEqDiff])
            | (refine AWP.ret ?_; try dsimp only [thn, inBlk])
            | (refine AWP.condT ?_ ?_; (focus (simp [go_sem, b1, b3, b5]; done)))
            | (refine AWP.condF ?_ ?_; (focus (simp [go_sem, b1, b3, b5]; done)))
            | (apply AWP.rE; (focus (simp [go_sem, b1, b3, b5]; exact ⟨rfl, rfl⟩)); try dsimp only [thn, inBlk])
            | fail)
          exact ⟨by simp [go_sem], rfl⟩
        have c2' : ((c.toNat : Int) == 46) = false := by have := neB (d := 46) c2; simp at this ⊢; omega
        by_cases c3 : c = 95
        · subst c3
          have e : plc 95 = true := by decide
          rw [e]
          (repeat' first
            | refine AWP.seq ?_
            | refine AWP.block ?_
            | (refine AWP.skip ?_; try dsimp only [thn, inBlk])
            | (refine AWP.exit ?_; try simp only [thn, inBlk, if_true, reduceIte, Nat.reduceEqDiff])
            | (refine AWP.ret ?_; try dsimp only [thn, inBlk])
            | (refine AWP.condT ?_ ?_; (focus (simp [go_sem, b1, b3, b5]; done)))
            | (refine AWP.condF ?_ ?_; (focus (simp [go_sem, b1, b3, b5]; done)))
            | (apply AWP.rE; (focus (simp [go_sem, b1, b3, b5]; exact ⟨rfl, rfl⟩)); try dsimp only [thn, inBlk])
            | fail)
          exact ⟨by simp [go_sem], rfl⟩
        have c3' : ((c.toNat : Int) == 95) = false := by have := neB (d := 95) c3; simp at this ⊢; omega
        by_cases c4 : c = 43
        · subst c4
          have e : plc 43 = true := by decide
          rw [e]
          (repeat' first
            | refine AWP.seq ?_
            | refine AWP.block ?_
            | (refine AWP.skip ?_; try dsimp only [thn, inBlk])
            | (refine AWP.exit ?_; try simp only [thn, inBlk, if_true, reduceIte, Nat.reduceEqDiff])
            | (refine AWP.ret ?_; try dsimp only [thn, inBlk])
            | (refine AWP.condT ?_ ?_; (focus (simp [go_sem, b1, b3, b5]; done)))
            | (refine AWP.condF ?_ ?_; (focus (simp [go_sem, b1, b3, b5]; done)))
            | (apply AWP.rE; (focus (simp [go_sem, b1, b3, b5]; exact ⟨rfl, rfl⟩)); try dsimp only [thn, inBlk])
            | fail)
          exact ⟨by simp [go_sem], rfl⟩
        have c4' : ((c.toNat : Int) == 43) = false := by have := neB (d := 43) c4; simp at this ⊢; omega
        have e : plc c = false := by simp [plc, nl, c1, c2, c3, c4]
        rw [e]
        (repeat' first
          | refine AWP.seq ?_
          | refine AWP.block ?_
          | (refine AWP.skip ?_; try dsimp only [thn, inBlk])
          | (refine AWP.exit ?_; try simp only [thn, inBlk, if_true, reduceIte, Nat.reduceEqDiff])
          | (refine AWP.ret ?_; try dsimp only [thn, inBlk])
          | (refine AWP.condT ?_ ?_; (focus (simp [go_sem, b1, b3, b5, c1', c2', c3', c4']; done)))
          | (refine AWP.condF ?_ ?_; (focus (simp [go_sem, b1, b3, b5, c1', c2', c3', c4']; done)))
          | (apply AWP.rE; (focus (simp [go_sem, b1, b3, b5, c1', c2', c3', c4']; exact ⟨rfl, rfl⟩)); try dsimp only [thn, inBlk])
          | fail)
        exact ⟨by simp [go_sem], rfl⟩
  · rintro s h2 ⟨rfl, rfl⟩
    cases hc : plc c
    · rw [hc, Bool.false_and] at hI
      have e : partB l = false := by rw [partB, hI]; rfl
      rw [e]
      (repeat' first
        | refine AWP.seq ?_
        | refine AWP.block ?_
        | (refine AWP.skip ?_; try dsimp only [thn, inBlk])
        | (refine AWP.exit ?_; try simp only [thn, inBlk, if_true, reduceIte, Nat.reduceEqDiff])
        | (refine AWP.ret ?_; try dsimp only [thn, inBlk])
        | (refine AWP.condT ?_ ?_; (focus (simp [go_sem]; done)))
        | (refine AWP.condF ?_ ?_; (focus (simp [go_sem]; done)))
        | (apply AWP.rE; (focus (simp [go_sem]; exact ⟨rfl, rfl⟩)); try dsimp only [thn, inBlk])
        | fail)
      simp [bodyQ, thn, inBlk, resA, resV, go_sem]
    · rw [hc, Bool.true_and] at hI
      (repeat' first
        | refine AWP.seq ?_
        | refine AWP.block ?_
        | (refine AWP.skip ?_; try dsimp only [thn, inBlk])
        | (refine AWP.exit ?_; try simp only [thn, inBlk, if_true, reduceIte, Nat.reduceEqDiff])
        | (refine AWP.ret ?_; try dsimp only [thn, inBlk])
        | (refine AWP.condT ?_ ?_; (focus (simp [go_sem, w1]; done)))
        | (refine AWP.condF ?_ ?_; (focus (simp [go_sem, w1]; done)))
        | (apply AWP.rE; (focus (simp [go_sem, w1]; exact ⟨rfl, rfl⟩)); try dsimp only [thn, inBlk])
        | fail)
      exact ⟨l.length - (j + 1), by omega, j + 1, by omega, rfl, by simp [go_sem], hI, rfl⟩
set_option maxHeartbeats 8000000 in
theorem rright_calls {O : Old} {h : AHeap} {R : List Chunk} {a : Option Addr} {cap : Nat} {ls : List (List UInt8)} {r : List UInt8} (k : Own O h (txs (.slice a ls.length cap) ls :: R)) (h0 : 0 < ls.length) (hl : ls.length ≤ 1000000) (hm : ∀ l ∈ ls, l.length ≤ 1000000) (hr : r.length ≤ 1000000) :
    ACalls Tryd.prog 51 #[.agg #[.slice a ls.length cap, tx r]] h fun v h' => v = .bool (nameP ls r) ∧ Own O h' (txs (.slice a ls.length cap) ls :: R) := by
  refine ACalls.of_awp (args := [.agg #[.slice a ls.length cap, tx r]]) (n := 34) Tryd.func51 rfl rfl (by show 1 ≤ 34; omega) ?_
  have k1 := k.push (.row [.slice a ls.length cap, tx r] 57 2 true false)
  have c1 := k1.obj
  have h0' : ¬ (ls.length : Int) < 1 := by omega
  have h0n : ¬ ls = [] := by rintro rfl; simp at h0
  by_cases h3 : ls.length ≤ 3
  rotate_left
  · have h3' : (3 : Int) < ls.length := by omega
    have e : nameP ls r = false := by simp [nameP, h3]
    rw [e]
    (repeat' first
      | refine AWP.seq ?_
      | refine AWP.block ?_
      | (refine AWP.skip ?_; try dsimp only [thn, inBlk])
      | (refine AWP.exit ?_; try simp only [thn, inBlk, if_true, reduceIte, Nat.reduceEqDiff])
      | (refine AWP.ret ?_; try dsimp only [thn, inBlk])
      | (refine AWP.condT ?_ ?_; (focus (simp [go_sem, c1, h0', h0n, h3']; done)))
      | (refine AWP.condF ?_ ?_; (focus (simp [go_sem, c1, h0', h0n, h3']; done)))
      | (apply AWP.rE; (focus (simp [go_sem, c1, h0', h0n, h3']; exact ⟨rfl, rfl⟩)); try dsimp only [thn, inBlk])
      | fail)
    simp [bodyQ, thn, inBlk, resA, resV, go_sem]
    exact k1.tail
  have h3' : ¬ (3 : Int) < ls.length := by omega
  (repeat' first
    | refine AWP.seq ?_
    | refine AWP.block ?_
    | (refine AWP.skip ?_; try dsimp only [thn, inBlk])
    | (refine AWP.exit ?_; try simp only [thn, inBlk, if_true, reduceIte, Nat.reduceEqDiff])
    | (refine AWP.ret ?_; try dsimp only [thn, inBlk])
    | (refine AWP.condT ?_ ?_; (focus (simp [go_sem]; done)))
    | (refine AWP.condF ?_ ?_; (focus (simp [go_sem]; done)))
    | (apply AWP.rE; (focus (simp [go_sem]; exact ⟨rfl, rfl⟩)); try dsimp only [thn, inBlk])
    | fail)
  refine AWP.callE (by simp [go_sem, c1, h0', h0n, h3']; exact ⟨rfl, rfl, rfl, rfl, rfl⟩) (by kernel_rfl) ?_
  refine (rpart_calls hr).mono ?_
  rintro v h2 ⟨rfl, rfl⟩
  cases hp : partB r
  · have e : nameP ls r = false := by simp only [nameP, hp]; simp
    rw [e]
    refine awpL_restE (by simp [go_sem]; exact ⟨rfl, rfl⟩) ?_; try dsimp only [thn, inBlk]
    (repeat' first
      | refine AWP.seq ?_
      | refine AWP.block ?_
      | (refine AWP.skip ?_; try dsimp only [thn, inBlk])
      | (refine AWP.exit ?_; try simp only [thn, inBlk, if_true, reduceIte, Nat.reduceEqDiff])
      | (refine AWP.ret ?_; try dsimp only [thn, inBlk])
      | (refine AWP.condT ?_ ?_; (focus (simp [go_sem]; done)))
      | (refine AWP.condF ?_ ?_; (focus (simp [go_sem]; done)))
      | (apply AWP.rE; (focus (simp [go_sem]; exact ⟨rfl, rfl⟩)); try dsimp only [thn, inBlk])
      | fail)
    simp [bodyQ, thn, inBlk, resA, resV, go_sem]
    exact k1.tail
  have e : nameP ls r = ls.all partB := by simp only [nameP, hp, decide_eq_true h3]; simp
  rw [e]
  refine awpL_restE (by simp [go_sem]; exact ⟨rfl, rfl⟩) ?_; try dsimp only [thn, inBlk]
  (repeat' first
    | refine AWP.seq ?_
    | refine AWP.block ?_
    | (refine AWP.skip ?_; try dsimp only [thn, inBlk])
    | (refine AWP.exit ?_; try simp only [thn, inBlk, if_true, reduceIte, Nat.reduceEqDiff])
    | (refine AWP.ret ?_; try dsimp only [thn, inBlk])
    | (refine AWP.condT ?_ ?_; (focus (simp [go_sem]; done)))
    | (refine AWP.condF ?_ ?_; (focus (simp [go_sem]; done)))
    | (apply AWP.rE; (focus (simp [go_sem]; exact ⟨rfl, rfl⟩)); try dsimp only [thn, inBlk])
    | fail)
  refine AWP.loopR [1, 3] (fun m s h' => ∃ j : Nat, j ≤ ls.length ∧ m = ls.length - j ∧ s = ⟨34, [(1, ptr h.next), (3, .int .i64 j)]⟩ ∧ (ls.all partB = (ls.drop j).all partB) ∧ h' = h.push (.row [.slice a ls.length cap, tx r] 57 2 true false)) ?_ ?_
  · exact ⟨_, 0, by omega, rfl, rfl, rfl, rfl⟩
  rintro m s hB ⟨j, hj, rfl, rfl, hI, rfl⟩
  by_cases hjm : j < ls.length
  rotate_left
  · have hjm' : ¬ (j : Int) < ls.length := by omega
    have ha : ls.all partB = true := by rw [hI, List.drop_eq_nil_iff.2 (by omega)]; rfl
    rw [ha]
    (repeat' first
      | refine AWP.seq ?_
      | refine AWP.block ?_
      | (refine AWP.skip ?_; try dsimp only [thn, inBlk])
      | (refine AWP.exit ?_; try simp only [thn, inBlk, if_true, reduceIte, Nat.reduceEqDiff])
      | (refine AWP.ret ?_; try dsimp only [thn, inBlk])
      | (refine AWP.condT ?_ ?_; (focus (simp [go_sem, c1, hjm']; done)))
      | (refine AWP.condF ?_ ?_; (focus (simp [go_sem, c1, hjm']; done)))
      | (apply AWP.rE; (focus (simp [go_sem, c1, hjm']; exact ⟨rfl, rfl⟩)); try dsimp only [thn, inBlk])
      | fail)
    simp [bodyQ, thn, inBlk, resA, resV, go_sem]
    exact k1.tail
  have hjm' : (j : Int) < ls.length := by omega
  have hg : (ls.map T)[j]? = some (tx ls[j]) := by simp [hjm, T]
  obtain ⟨bi, bo, c, e', sz, ti, ro, q1, q2, q3⟩ := k1.b1.os_sl.at1 (P := Tryd.prog) (t := 41) Tryd.underlying41 tsz9 hjm hg (kd := .i64)
  have hdr : ls.drop j = ls[j] :: ls.drop (j + 1) := List.drop_eq_getElem_cons hjm
  have hml := hm ls[j] (List.getElem_mem _)
  generalize ls[j] = x at q3 hdr hml
  rw [hdr, List.all_cons] at hI
  have w1 : IntKind.i64.wrap ((j : Int) + 1) = ((j + 1 : Nat) : Int) := by rw [wI64 (by omega) (by omega)]; omega
  (repeat' first
    | refine AWP.seq ?_
    | refine AWP.block ?_
    | (refine AWP.skip ?_; try dsimp only [thn, inBlk])
    | (refine AWP.exit ?_; try simp only [thn, inBlk, if_true, reduceIte, Nat.reduceEqDiff])
    | (refine AWP.ret ?_; try dsimp only [thn, inBlk])
    | (refine AWP.condT ?_ ?_; (focus (simp [go_sem, c1, hjm']; done)))
    | (refine AWP.condF ?_ ?_; (focus (simp [go_sem, c1, hjm']; done)))
    | (apply AWP.rE; (focus (simp [go_sem, c1, hjm']; exact ⟨rfl, rfl⟩)); try dsimp only [thn, inBlk])
    | fail)
  refine AWP.callE (by simp [go_sem, c1, q1, q2, q3]; exact ⟨rfl, rfl, rfl, rfl, rfl⟩) (by kernel_rfl) ?_
  refine (rpart_calls hml).mono ?_
  rintro v h2 ⟨rfl, rfl⟩
  cases hx : partB x
  · refine awpL_restE (by simp [go_sem]; exact ⟨rfl, rfl⟩) ?_; try dsimp only [thn, inBlk]
    rw [hx, Bool.false_and] at hI
    rw [hI]
    (repeat' first
      | refine AWP.seq ?_
      | refine AWP.block ?_
      | (refine AWP.skip ?_; try dsimp only [thn, inBlk])
      | (refine AWP.exit ?_; try simp only [thn, inBlk, if_true, reduceIte, Nat.reduceEqDiff])
      | (refine AWP.ret ?_; try dsimp only [thn, inBlk])
      | (refine AWP.condT ?_ ?_; (focus (simp [go_sem]; done)))
      | (refine AWP.condF ?_ ?_; (focus (simp [go_sem]; done)))
      | (apply AWP.rE; (focus (simp [go_sem]; exact ⟨rfl, rfl⟩)); try dsimp only [thn, inBlk])
      | fail)
    simp [bodyQ, thn, inBlk, resA, resV, go_sem]
    exact k1.tail
  · refine awpL_restE (by simp [go_sem]; exact ⟨rfl, rfl⟩) ?_; try dsimp only [thn, inBlk]
    rw [hx, Bool.true_and] at hI
    (repeat' first
      | refine AWP.seq ?_
      | refine AWP.block ?_
      | (refine AWP.skip ?_; try dsimp only [thn, inBlk])
      | (refine AWP.exit ?_; try simp only [thn, inBlk, if_true, reduceIte, Nat.reduceEqDiff])
      | (refine AWP.ret ?_; try dsimp only [thn, inBlk])
      | (refine AWP.condT ?_ ?_; (focus (simp [go_sem, w1]; done)))
      | (refine AWP.condF ?_ ?_; (focus (simp [go_sem, w1]; done)))
      | (apply AWP.rE; (focus (simp [go_sem, w1]; exact ⟨rfl, rfl⟩)); try dsimp only [thn, inBlk])
      | fail)
    exact ⟨ls.length - (j + 1), by omega, j + 1, by omega, rfl, by simp [go_sem], hI, rfl⟩
end L11

