import Derived.Test.YtfnlbcifdopnhaaDoorL11c
open Go Ab Go.Proofs
namespace L11
set_option autoImplicit false
set_option linter.unusedSimpArgs false
set_option linter.unusedVariables false

/-! ### Parts of names -/
def letter (c : UInt8) : Bool := (decide (97 ≤ c.toNat) && decide (c.toNat ≤ 122)) || (decide (65 ≤ c.toNat) && decide (c.toNat ≤ 90)) || (decide (48 ≤ c.toNat) && decide (c.toNat ≤ 57))
def plc (c : UInt8) : Bool := letter c || c == 45 || c == 46 || c == 95 || c == 43
set_option maxHeartbeats 4000000 in
theorem plain_calls {h : AHeap} {c : UInt8} : ACalls Tryd.prog 56 #[.int .u8 c.toNat] h fun r h' => r = .bool (plc c) ∧ h' = h := by
  refine ACalls.of_awp (args := [.int .u8 c.toNat]) (n := 36) Tryd.func56 rfl rfl (by show 1 ≤ 36; omega) ?_
  refine AWP.seq ?_
  (apply AWP.rE; (focus (simp [go_sem]; exact ⟨rfl, rfl⟩)); try dsimp only [thn, inBlk])
  refine AWP.seq ?_
  refine AWP.block ?_
  refine AWP.cut [0, 3] (fun s h' => s = ⟨36, [(0, .int .u8 c.toNat), (3, .bool (letter c))]⟩ ∧ h' = h) ?_ ?_
  · by_cases a1 : (97 : Int) ≤ c.toNat
    · by_cases a2 : (c.toNat : Int) ≤ 122
      · have a3 : True := trivial
        have e : letter c = true := by simp [letter]; omega
        rw [e]
        (repeat' first
          | refine AWP.seq ?_
          | refine AWP.block ?_
          | (refine AWP.skip ?_; try dsimp only [thn, inBlk])
          | (refine AWP.exit ?_; try simp only [thn, inBlk, if_true, reduceIte, Nat.reduceEqDiff])
          | (refine AWP.ret ?_; try dsimp only [thn, inBlk])
          | (refine AWP.condT ?_ ?_; (focus (simp [go_sem, a1, a2]; done)))
          | (refine AWP.condF ?_ ?_; (focus (simp [go_sem, a1, a2]; done)))
          | (apply AWP.rE; (focus (simp [go_sem, a1, a2]; exact ⟨rfl, rfl⟩)); try dsimp only [thn, inBlk])
          | fail)
        exact ⟨by simp [go_sem], rfl⟩
      · have a3 : (65 : Int) ≤ c.toNat := by omega
        have a4 : ¬ (c.toNat : Int) ≤ 90 := by omega
        have a5 : (48 : Int) ≤ c.toNat := by omega
        have a6 : ¬ (c.toNat : Int) ≤ 57 := by omega
        have e : letter c = false := by simp [letter]; omega
        rw [e]
        (repeat' first
          | refine AWP.seq ?_
          | refine AWP.block ?_
          | (refine AWP.skip ?_; try dsimp only [thn, inBlk])
          | (refine AWP.exit ?_; try simp only [thn, inBlk, if_true, reduceIte, Nat.reduceEqDiff])
          | (refine AWP.ret ?_; try dsimp only [thn, inBlk])
          | (refine AWP.condT ?_ ?_; (focus (simp [go_sem, a1, a2, a3, a4, a5, a6]; done)))
          | (refine AWP.condF ?_ ?_; (focus (simp [go_sem, a1, a2, a3, a4, a5, a6]; done)))
          | (apply AWP.rE; (focus (simp [go_sem, a1, a2, a3, a4, a5, a6]; exact ⟨rfl, rfl⟩)); try dsimp only [thn, inBlk])
          | fail)
        exact ⟨by simp [go_sem], rfl⟩
    · by_cases a3 : (65 : Int) ≤ c.toNat
      · by_cases a4 : (c.toNat : Int) ≤ 90
        · have a5 : True := trivial
          have e : letter c = true := by simp [letter]; omega
          rw [e]
          (repeat' first
            | refine AWP.seq ?_
            | refine AWP.block ?_
            | (refine AWP.skip ?_; try dsimp only [thn, inBlk])
            | (refine AWP.exit ?_; try simp only [thn, inBlk, if_true, reduceIte, Nat.reduceEqDiff])
            | (refine AWP.ret ?_; try dsimp only [thn, inBlk])
            | (refine AWP.condT ?_ ?_; (focus (simp [go_sem, a1, a3, a4]; done)))
            | (refine AWP.condF ?_ ?_; (focus (simp [go_sem, a1, a3, a4]; done)))
            | (apply AWP.rE; (focus (simp [go_sem, a1, a3, a4]; exact ⟨rfl, rfl⟩)); try dsimp only [thn, inBlk])
            | fail)
          exact ⟨by simp [go_sem], rfl⟩
        · have a5 : (48 : Int) ≤ c.toNat := by omega
          have a6 : ¬ (c.toNat : Int) ≤ 57 := by omega
          have e : letter c = false := by simp [letter]; omega
          rw [e]
          (repeat' first
            | refine AWP.seq ?_
            | refine AWP.block ?_
            | (refine AWP.skip ?_; try dsimp only [thn, inBlk])
            | (refine AWP.exit ?_; try simp only [thn, inBlk, if_true, reduceIte, Nat.reduceEqDiff])
            | (refine AWP.ret ?_; try dsimp only [thn, inBlk])
            | (refine AWP.condT ?_ ?_; (focus (simp [go_sem, a1, a3, a4, a5, a6]; done)))
            | (refine AWP.condF ?_ ?_; (focus (simp [go_sem, a1, a3, a4, a5, a6]; done)))
            | (apply AWP.rE; (focus (simp [go_sem, a1, a3, a4, a5, a6]; exact ⟨rfl, rfl⟩)); try dsimp only [thn, inBlk])
            | fail)
          exact ⟨by simp [go_sem], rfl⟩
      · by_cases a5 : (48 : Int) ≤ c.toNat
        · by_cases a6 : (c.toNat : Int) ≤ 57
          · have a7 : True := trivial
            have e : letter c = true := by simp [letter]; omega
            rw [e]
            (repeat' first
              | refine AWP.seq ?_
              | refine AWP.block ?_
              | (refine AWP.skip ?_; try dsimp only [thn, inBlk])
              | (refine AWP.exit ?_; try simp only [thn, inBlk, if_true, reduceIte, Nat.reduceEqDiff])
              | (refine AWP.ret ?_; try dsimp only [thn, inBlk])
              | (refine AWP.condT ?_ ?_; (focus (simp [go_sem, a1, a3, a5, a6]; done)))
              | (refine AWP.condF ?_ ?_; (focus (simp [go_sem, a1, a3, a5, a6]; done)))
              | (apply AWP.rE; (focus (simp [go_sem, a1, a3, a5, a6]; exact ⟨rfl, rfl⟩)); try dsimp only [thn, inBlk])
              | fail)
            exact ⟨by simp [go_sem], rfl⟩
          · have a7 : True := trivial
            have e : letter c = false := by simp [letter]; omega
            rw [e]
            (repeat' first
              | refine AWP.seq ?_
              | refine AWP.block ?_
              | (refine AWP.skip ?_; try dsimp only [thn, inBlk])
              | (refine AWP.exit ?_; try simp only [thn, inBlk, if_true, reduceIte, Nat.reduceEqDiff])
              | (refine AWP.ret ?_; try dsimp only [thn, inBlk])
              | (refine AWP.condT ?_ ?_; (focus (simp [go_sem, a1, a3, a5, a6]; done)))
              | (refine AWP.condF ?_ ?_; (focus (simp [go_sem, a1, a3, a5, a6]; done)))
              | (apply AWP.rE; (focus (simp [go_sem, a1, a3, a5, a6]; exact ⟨rfl, rfl⟩)); try dsimp only [thn, inBlk])
              | fail)
            exact ⟨by simp [go_sem], rfl⟩
        · have a7 : True := trivial
          have e : letter c = false := by simp [letter]; omega
          rw [e]
          (repeat' first
            | refine AWP.seq ?_
            | refine AWP.block ?_
            | (refine AWP.skip ?_; try dsimp only [thn, inBlk])
            | (refine AWP.exit ?_; try simp only [thn, inBlk, if_true, reduceIte, Nat.reduceEqDiff])
            | (refine AWP.ret ?_; try dsimp only [thn, inBlk])
            | (refine AWP.condT ?_ ?_; (focus (simp [go_sem, a1, a3, a5]; done)))
            | (refine AWP.condF ?_ ?_; (focus (simp [go_sem, a1, a3, a5]; done)))
            | (apply AWP.rE; (focus (simp [go_sem, a1, a3, a5]; exact ⟨rfl, rfl⟩)); try dsimp only [thn, inBlk])
            | fail)
          exact ⟨by simp [go_sem], rfl⟩
  · rintro s h2 ⟨rfl, rfl⟩
    by_cases b1 : letter c = true
    · have e : plc c = true := by simp [plc, b1]
      rw [e]
      (repeat' first
        | refine AWP.seq ?_
        | refine AWP.block ?_
        | (refine AWP.skip ?_; try dsimp only [thn, inBlk])
        | (refine AWP.exit ?_; try simp only [thn, inBlk, if_true, reduceIte, Nat.reduceEqDiff])
        | (refine AWP.ret ?_; try dsimp only [thn, inBlk])
        | (refine AWP.condT ?_ ?_; (focus (simp [go_sem, b1]; done)))
        | (refine AWP.condF ?_ ?_; (focus (simp [go_sem, b1]; done)))
        | (apply AWP.rE; (focus (simp [go_sem, b1]; exact ⟨rfl, rfl⟩)); try dsimp only [thn, inBlk])
        | fail)
      simp [bodyQ, thn, inBlk, resA, resV, go_sem]
    have b1 : letter c = false := by simpa using b1
    by_cases c1 : c = 45
    · subst c1
      have e : plc 45 = true := by decide
      rw [e]
      (repeat' first
        | refine AWP.seq ?_
        | refine AWP.block ?_
        | (refine AWP.skip ?_; try dsimp only [thn, inBlk])
        | (refine AWP.exit ?_; try simp only [thn, inBlk, if_true, reduceIte, Nat.reduceEqDiff])
        | (refine AWP.ret ?_; try dsimp only [thn, inBlk])
        | (refine AWP.condT ?_ ?_; (focus (simp [go_sem, b1]; done)))
        | (refine AWP.condF ?_ ?_; (focus (simp [go_sem, b1]; done)))
        | (apply AWP.rE; (focus (simp [go_sem, b1]; exact ⟨rfl, rfl⟩)); try dsimp only [thn, inBlk])
        | fail)
      simp [bodyQ, thn, inBlk, resA, resV, go_sem]
    have c1' : ((c.toNat : Int) == 45) = false := by have := neB (d := 45) c1; simp at this ⊢; omega
    by_cases c2 : c = 46
    · subst c2
      have e : plc 46 = true := by decide
      rw [e]
      (repeat' first
        | refine AWP.seq ?_
        | refine AWP.block ?_
        | (refine AWP.skip ?_; try dsimp only [thn, inBlk])
        | (refine AWP.exit ?_; try simp only [thn, inBlk, if_true, reduceIte, Nat.reduceEqDiff])
        | (refine AWP.ret ?_; try dsimp only [thn, inBlk])
        | (refine AWP.condT ?_ ?_; (focus (simp [go_sem, b1]; done)))
        | (refine AWP.condF ?_ ?_; (focus (simp [go_sem, b1]; done)))
        | (apply AWP.rE; (focus (simp [go_sem, b1]; exact ⟨rfl, rfl⟩)); try dsimp only [thn, inBlk])
        | fail)
      simp [bodyQ, thn, inBlk, resA, resV, go_sem]
    have c2' : ((c.toNat : Int) == 46) = false := by have := neB (d := 46) c2; simp at this ⊢; omega
    by_cases c3 : c = 95
    · subst c3
      have e : plc 95 = true := by decide
      rw [e]
      (repeat' first
        | refine AWP.seq ?_
        | refine AWP.block ?_
        | (refine AWP.skip ?_; try dsimp only [thn, inBlk])
        | (refine AWP.exit ?_; try simp only [thn, inBlk, if_true, reduceIte, Nat.reduceEqDiff])
        | (refine AWP.ret ?_; try dsimp only [thn, inBlk])
        | (refine AWP.condT ?_ ?_; (focus (simp [go_sem, b1]; done)))
        | (refine AWP.condF ?_ ?_; (focus (simp [go_sem, b1]; done)))
        | (apply AWP.rE; (focus (simp [go_sem, b1]; exact ⟨rfl, rfl⟩)); try dsimp only [thn, inBlk])
        | fail)
      simp [bodyQ, thn, inBlk, resA, resV, go_sem]
    have c3' : ((c.toNat : Int) == 95) = false := by have := neB (d := 95) c3; simp at this ⊢; omega
    by_cases c4 : c = 43
    · subst c4
      have e : plc 43 = true := by decide
      rw [e]
      (repeat' first
        | refine AWP.seq ?_
        | refine AWP.block ?_
        | (refine AWP.skip ?_; try dsimp only [thn, inBlk])
        | (refine AWP.exit ?_; try simp only [thn, inBlk, if_true, reduceIte, Nat.reduceEqDiff])
        | (refine AWP.ret ?_; try dsimp only [thn, inBlk])
        | (refine AWP.condT ?_ ?_; (focus (simp [go_sem, b1]; done)))
        | (refine AWP.condF ?_ ?_; (focus (simp [go_sem, b1]; done)))
        | (apply AWP.rE; (focus (simp [go_sem, b1]; exact ⟨rfl, rfl⟩)); try dsimp only [thn, inBlk])
        | fail)
      simp [bodyQ, thn, inBlk, resA, resV, go_sem]
    have c4' : ((c.toNat : Int) == 43) = false := by have := neB (d := 43) c4; simp at this ⊢; omega
    have e : plc c = false := by simp [plc, b1, c1, c2, c3, c4]
    rw [e]
    (repeat' first
      | refine AWP.seq ?_
      | refine AWP.block ?_
      | (refine AWP.skip ?_; try dsimp only [thn, inBlk])
      | (refine AWP.exit ?_; try simp only [thn, inBlk, if_true, reduceIte, Nat.reduceEqDiff])
      | (refine AWP.ret ?_; try dsimp only [thn, inBlk])
      | (refine AWP.condT ?_ ?_; (focus (simp [go_sem, b1, c1', c2', c3', c4']; done)))
      | (refine AWP.condF ?_ ?_; (focus (simp [go_sem, b1, c1', c2', c3', c4']; done)))
      | (apply AWP.rE; (focus (simp [go_sem, b1, c1', c2', c3', c4']; exact ⟨rfl, rfl⟩)); try dsimp only [thn, inBlk])
      | fail)
    simp [bodyQ, thn, inBlk, resA, resV, go_sem]
/-- May a text be a part? -/
def partB (l : List UInt8) : Bool := l.all plc && !(l == []) && decide (l.length ≤ 16)
set_option maxHeartbeats 4000000 in
theorem part_calls {h : AHeap} {l : List UInt8} (hm : l.length ≤ 1000000) : ACalls Tryd.prog 44 #[tx l] h fun r h' => r = .bool (partB l) ∧ h' = h := by
  refine ACalls.of_awp (args := [tx l]) (n := 22) Tryd.func44 rfl rfl (by show 1 ≤ 22; omega) ?_
  (repeat' first
    | refine AWP.seq ?_
    | refine AWP.block ?_
    | (refine AWP.skip ?_; try dsimp only [thn, inBlk])
    | (refine AWP.exit ?_; try simp only [thn, inBlk, if_true, reduceIte, Nat.reduceEqDiff])
    | (refine AWP.ret ?_; try dsimp only [thn, inBlk])
    | (refine AWP.condT ?_ ?_; (focus (simp [go_sem]; done)))
    | (refine AWP.condF ?_ ?_; (focus (simp [go_sem]; done)))
    | (apply AWP.rE; (focus (simp [go_sem]; exact ⟨rfl, rfl⟩)); try dsimp only [thn, inBlk])
    | fail)
  refine AWP.loopR [0, 5, 6] (fun m s h' => ∃ j : Nat, j ≤ l.length ∧ m = l.length - j ∧ s = ⟨22, [(0, tx l), (5, .int .i64 l.length), (6, .int .i64 j)]⟩ ∧ (l.all plc = (l.drop j).all plc) ∧ h' = h) ?_ ?_
  · exact ⟨_, 0, by omega, rfl, rfl, rfl, rfl⟩
  rintro m s h1 ⟨j, hj, rfl, rfl, hI, rfl⟩
  by_cases hjm : j < l.length
  rotate_left
  · have hjm' : ¬ (j : Int) < l.length := by omega
    have ha : l.all plc = true := by rw [hI, List.drop_eq_nil_iff.2 (by omega)]; rfl
    by_cases h1 : l = []
    · subst h1
      (repeat' first
        | refine AWP.seq ?_
        | refine AWP.block ?_
        | (refine AWP.skip ?_; try dsimp only [thn, inBlk])
        | (refine AWP.exit ?_; try simp only [thn, inBlk, if_true, reduceIte, Nat.reduceEqDiff])
        | (refine AWP.ret ?_; try dsimp only [thn, inBlk])
        | (refine AWP.condT ?_ ?_; (focus (simp [go_sem, hjm']; done)))
        | (refine AWP.condF ?_ ?_; (focus (simp [go_sem, hjm']; done)))
        | (apply AWP.rE; (focus (simp [go_sem, hjm']; exact ⟨rfl, rfl⟩)); try dsimp only [thn, inBlk])
        | fail)
      simp [bodyQ, thn, inBlk, resA, resV, go_sem]
      rfl
    have h1' : (l == []) = false := by simpa using h1
    have e : partB l = decide ((l.length : Int) ≤ 16) := by
      simp only [partB, ha, h1']
      by_cases h2 : l.length ≤ 16
      · rw [decide_eq_true h2, decide_eq_true (by omega)]; rfl
      · rw [decide_eq_false h2, decide_eq_false (by omega)]; rfl
    rw [e]
    (repeat' first
      | refine AWP.seq ?_
      | refine AWP.block ?_
      | (refine AWP.skip ?_; try dsimp only [thn, inBlk])
      | (refine AWP.exit ?_; try simp only [thn, inBlk, if_true, reduceIte, Nat.reduceEqDiff])
      | (refine AWP.ret ?_; try dsimp only [thn, inBlk])
      | (refine AWP.condT ?_ ?_; (focus (simp [go_sem, hjm', h1']; done)))
      | (refine AWP.condF ?_ ?_; (focus (simp [go_sem, hjm', h1']; done)))
      | (apply AWP.rE; (focus (simp [go_sem, hjm', h1']; exact ⟨rfl, rfl⟩)); try dsimp only [thn, inBlk])
      | fail)
    simp [bodyQ, thn, inBlk, resA, resV, go_sem]
  have hjm' : (j : Int) < l.length := by omega
  have x1 : indexP Tryd.prog 9 (tx l) (.int .i64 (j : Int)) = some (.int .u8 l[j].toNat) := str_index Tryd.underlying9 (by omega)
  have hdr : l.drop j = l[j] :: l.drop (j + 1) := List.drop_eq_getElem_cons hjm
  generalize l[j] = c at x1 hdr
  rw [hdr, List.all_cons] at hI
  have w1 : IntKind.i64.wrap ((j : Int) + 1) = ((j + 1 : Nat) : Int) := by rw [wI64 (by omega) (by omega)]; omega
  (repeat' first
    | refine AWP.seq ?_
    | refine AWP.block ?_
    | (refine AWP.skip ?_; try dsimp only [thn, inBlk])
    | (refine AWP.exit ?_; try simp only [thn, inBlk, if_true, reduceIte, Nat.reduceEqDiff])
    | (refine AWP.ret ?_; try dsimp only [thn, inBlk])
    | (refine AWP.condT ?_ ?_; (focus (simp [go_sem, hjm', x1]; done)))
    | (refine AWP.condF ?_ ?_; (focus (simp [go_sem, hjm', x1]; done)))
    | (apply AWP.rE; (focus (simp [go_sem, hjm', x1]; exact ⟨rfl, rfl⟩)); try dsimp only [thn, inBlk])
    | fail)
  refine AWP.callE (by simp [go_sem, x1]; exact ⟨rfl, rfl, rfl, rfl, rfl⟩) (by kernel_rfl) ?_
  refine (plain_calls (c := c)).mono ?_
  rintro r h2 ⟨rfl, rfl⟩
  cases hc : plc c
  · rw [hc, Bool.false_and] at hI
    have e : partB l = false := by rw [partB, hI]; rfl
    rw [e]
    refine awpL_restE (by simp [go_sem]; exact ⟨rfl, rfl⟩) ?_; try dsimp only [thn, inBlk]
    (repeat' first
      | refine AWP.seq ?_
      | refine AWP.block ?_
      | (refine AWP.skip ?_; try dsimp only [thn, inBlk])
      | (refine AWP.exit ?_; try simp only [thn, inBlk, if_true, reduceIte, Nat.reduceEqDiff])
      | (refine AWP.ret ?_; try dsimp only [thn, inBlk])
      | (refine AWP.condT ?_ ?_; (focus (simp [go_sem]; done)))
      | (refine AWP.condF ?_ ?_; (focus (simp [go_sem]; done)))
      | (apply AWP.rE; (focus (simp [go_sem]; exact ⟨rfl, rfl⟩)); try dsimp only [thn, inBlk])
      | fail)
    simp [bodyQ, thn, inBlk, resA, resV, go_sem]
  · rw [hc, Bool.true_and] at hI
    refine awpL_restE (by simp [go_sem]; exact ⟨rfl, rfl⟩) ?_; try dsimp only [thn, inBlk]
    (repeat' first
      | refine AWP.seq ?_
      | refine AWP.block ?_
      | (refine AWP.skip ?_; try dsimp only [thn, inBlk])
      | (refine AWP.exit ?_; try simp only [thn, inBlk, if_true, reduceIte, Nat.reduceEqDiff])
      | (refine AWP.ret ?_; try dsimp only [thn, inBlk])
      | (refine AWP.condT ?_ ?_; (focus (simp [go_sem, w1]; done)))
      | (refine AWP.condF ?_ ?_; (focus (simp [go_sem, w1]; done)))
      | (apply AWP.rE; (focus (simp [go_sem, w1]; exact ⟨rfl, rfl⟩)); try dsimp only [thn, inBlk])
      | fail)
    exact ⟨l.length - (j + 1), by omega, j + 1, by omega, rfl, by simp [go_sem], hI, rfl⟩

abbrev FN : Value := .func (.func 43) #[] #[]
theorem fn_calls {h : AHeap} {l : List UInt8} (hm : l.length ≤ 1000000) :
    ACalls Tryd.prog 43 #[tx l] h fun r h' => r = .bool (!(partB l)) ∧ h' = h := by
  refine ACalls.of_awp (args := [tx l]) (n := 6) Tryd.func43 rfl rfl (by show 1 ≤ 6; omega) ?_
  (repeat' first
    | refine AWP.seq ?_
    | refine AWP.block ?_
    | (refine AWP.skip ?_; try dsimp only [thn, inBlk])
    | (refine AWP.exit ?_; try simp only [thn, inBlk, if_true, reduceIte, Nat.reduceEqDiff])
    | (refine AWP.ret ?_; try dsimp only [thn, inBlk])
    | (refine AWP.condT ?_ ?_; (focus (simp [go_sem]; done)))
    | (refine AWP.condF ?_ ?_; (focus (simp [go_sem]; done)))
    | (apply AWP.rE; (focus (simp [go_sem]; exact ⟨rfl, rfl⟩)); try dsimp only [thn, inBlk])
    | fail)
  refine AWP.callE (by simp [go_sem]; exact ⟨rfl, rfl, rfl, rfl, rfl⟩) (by kernel_rfl) ?_
  refine (part_calls hm).mono ?_
  rintro r h' ⟨rfl, rfl⟩
  refine awpL_restE (by simp [go_sem]; exact ⟨rfl, rfl⟩) ?_; try dsimp only [thn, inBlk]
  (repeat' first
    | refine AWP.seq ?_
    | refine AWP.block ?_
    | (refine AWP.skip ?_; try dsimp only [thn, inBlk])
    | (refine AWP.exit ?_; try simp only [thn, inBlk, if_true, reduceIte, Nat.reduceEqDiff])
    | (refine AWP.ret ?_; try dsimp only [thn, inBlk])
    | (refine AWP.condT ?_ ?_; (focus (simp [go_sem]; done)))
    | (refine AWP.condF ?_ ?_; (focus (simp [go_sem]; done)))
    | (apply AWP.rE; (focus (simp [go_sem]; exact ⟨rfl, rfl⟩)); try dsimp only [thn, inBlk])
    | fail)
  simp [bodyQ, thn, inBlk, resA, resV, go_sem]
set_option maxHeartbeats 4000000 in
theorem indexfunc_calls {O : Old} {h : AHeap} {R : List Chunk} {v : Value} {ls : List (List UInt8)} (k : Own O h (txs v ls :: R)) (hl : ls.length ≤ 1000000) (hm : ∀ l ∈ ls, l.length ≤ 1000000) :
    ACalls Tryd.prog 57 #[v, FN] h fun r h' => ∃ z : Int, r = .int .i64 z ∧ decide (0 ≤ z) = !(ls.all partB) ∧ Own O h' (txs v ls :: R) := by
  obtain ⟨va, vc, rfl⟩ := k.os_val
  refine ACalls.of_awp (args := [.slice va ls.length vc, FN]) (n := 19) Tryd.func57 rfl rfl (by show 2 ≤ 19; omega) ?_
  (repeat' first
    | refine AWP.seq ?_
    | refine AWP.block ?_
    | (refine AWP.skip ?_; try dsimp only [thn, inBlk])
    | (refine AWP.exit ?_; try simp only [thn, inBlk, if_true, reduceIte, Nat.reduceEqDiff])
    | (refine AWP.ret ?_; try dsimp only [thn, inBlk])
    | (refine AWP.condT ?_ ?_; (focus (simp [go_sem]; done)))
    | (refine AWP.condF ?_ ?_; (focus (simp [go_sem]; done)))
    | (apply AWP.rE; (focus (simp [go_sem]; exact ⟨rfl, rfl⟩)); try dsimp only [thn, inBlk])
    | fail)
  refine AWP.loopR [0, 1, 7, 8] (fun m s h' => ∃ j : Nat, j ≤ ls.length ∧ m = ls.length - j ∧ s = ⟨19, [(0, .slice va ls.length vc), (1, FN), (7, .int .i64 ls.length), (8, .int .i64 j)]⟩ ∧ (ls.all partB = (ls.drop j).all partB) ∧ Own O h' (txs (.slice va ls.length vc) ls :: R)) ?_ ?_
  · exact ⟨_, 0, by omega, rfl, rfl, rfl, k⟩
  rintro m s h1 ⟨j, hj, rfl, rfl, hI, k2⟩
  by_cases hjm : j < ls.length
  rotate_left
  · have hjm' : ¬ (j : Int) < ls.length := by omega
    have ha : ls.all partB = true := by rw [hI, List.drop_eq_nil_iff.2 (by omega)]; rfl
    (repeat' first
      | refine AWP.seq ?_
      | refine AWP.block ?_
      | (refine AWP.skip ?_; try dsimp only [thn, inBlk])
      | (refine AWP.exit ?_; try simp only [thn, inBlk, if_true, reduceIte, Nat.reduceEqDiff])
      | (refine AWP.ret ?_; try dsimp only [thn, inBlk])
      | (refine AWP.condT ?_ ?_; (focus (simp [go_sem, hjm']; done)))
      | (refine AWP.condF ?_ ?_; (focus (simp [go_sem, hjm']; done)))
      | (apply AWP.rE; (focus (simp [go_sem, hjm']; exact ⟨rfl, rfl⟩)); try dsimp only [thn, inBlk])
      | fail)
    simp [bodyQ, thn, inBlk, resA, resV, go_sem]
    exact ⟨by simpa using ha, k2⟩
  have hjm' : (j : Int) < ls.length := by omega
  have hg : (ls.map T)[j]? = some (tx ls[j]) := by simp [hjm, T]
  obtain ⟨bi, bo, c, e', sz, ti, ro, q1, q2, q3⟩ := k2.os_sl.at1 (P := Tryd.prog) (t := 41) Tryd.underlying41 tsz9 hjm hg (kd := .i64)
  have hdr : ls.drop j = ls[j] :: ls.drop (j + 1) := List.drop_eq_getElem_cons hjm
  have hml := hm ls[j] (List.getElem_mem _)
  generalize ls[j] = x at q3 hdr hml
  rw [hdr, List.all_cons] at hI
  have w1 : IntKind.i64.wrap ((j : Int) + 1) = ((j + 1 : Nat) : Int) := by rw [wI64 (by omega) (by omega)]; omega
  (repeat' first
    | refine AWP.seq ?_
    | refine AWP.block ?_
    | (refine AWP.skip ?_; try dsimp only [thn, inBlk])
    | (refine AWP.exit ?_; try simp only [thn, inBlk, if_true, reduceIte, Nat.reduceEqDiff])
    | (refine AWP.ret ?_; try dsimp only [thn, inBlk])
    | (refine AWP.condT ?_ ?_; (focus (simp [go_sem, hjm']; done)))
    | (refine AWP.condF ?_ ?_; (focus (simp [go_sem, hjm']; done)))
    | (apply AWP.rE; (focus (simp [go_sem, hjm']; exact ⟨rfl, rfl⟩)); try dsimp only [thn, inBlk])
    | fail)
  refine AWP.callE (by simp [go_sem, q1, q2, q3]; exact ⟨rfl, rfl, rfl, rfl, rfl⟩) (by kernel_rfl) ?_
  refine (fn_calls hml).mono ?_
  rintro r h2 ⟨rfl, rfl⟩
  cases hx : partB x
  · refine awpL_restE (by simp [go_sem]; exact ⟨rfl, rfl⟩) ?_; try dsimp only [thn, inBlk]
    rw [hx, Bool.false_and] at hI
    (repeat' first
      | refine AWP.seq ?_
      | refine AWP.block ?_
      | (refine AWP.skip ?_; try dsimp only [thn, inBlk])
      | (refine AWP.exit ?_; try simp only [thn, inBlk, if_true, reduceIte, Nat.reduceEqDiff])
      | (refine AWP.ret ?_; try dsimp only [thn, inBlk])
      | (refine AWP.condT ?_ ?_; (focus (simp [go_sem]; done)))
      | (refine AWP.condF ?_ ?_; (focus (simp [go_sem]; done)))
      | (apply AWP.rE; (focus (simp [go_sem]; exact ⟨rfl, rfl⟩)); try dsimp only [thn, inBlk])
      | fail)
    simp [bodyQ, thn, inBlk, resA, resV, go_sem]
    exact ⟨by simpa using hI, k2⟩
  · refine awpL_restE (by simp [go_sem]; exact ⟨rfl, rfl⟩) ?_; try dsimp only [thn, inBlk]
    rw [hx, Bool.true_and] at hI
    (repeat' first
      | refine AWP.seq ?_
      | refine AWP.block ?_
      | (refine AWP.skip ?_; try dsimp only [thn, inBlk])
      | (refine AWP.exit ?_; try simp only [thn, inBlk, if_true, reduceIte, Nat.reduceEqDiff])
      | (refine AWP.ret ?_; try dsimp only [thn, inBlk])
      | (refine AWP.condT ?_ ?_; (focus (simp [go_sem, w1]; done)))
      | (refine AWP.condF ?_ ?_; (focus (simp [go_sem, w1]; done)))
      | (apply AWP.rE; (focus (simp [go_sem, w1]; exact ⟨rfl, rfl⟩)); try dsimp only [thn, inBlk])
      | fail)
    exact ⟨ls.length - (j + 1), by omega, j + 1, by omega, rfl, by simp [go_sem], hI, k2⟩
theorem containsfunc_calls {O : Old} {h : AHeap} {R : List Chunk} {v : Value} {ls : List (List UInt8)} (k : Own O h (txs v ls :: R)) (hl : ls.length ≤ 1000000) (hm : ∀ l ∈ ls, l.length ≤ 1000000) :
    ACalls Tryd.prog 45 #[v, FN] h fun r h' => r = .bool (!(ls.all partB)) ∧ Own O h' (txs v ls :: R) := by
  obtain ⟨va, vc, rfl⟩ := k.os_val
  refine ACalls.of_awp (args := [.slice va ls.length vc, FN]) (n := 9) Tryd.func45 rfl rfl (by show 2 ≤ 9; omega) ?_
  (repeat' first
    | refine AWP.seq ?_
    | refine AWP.block ?_
    | (refine AWP.skip ?_; try dsimp only [thn, inBlk])
    | (refine AWP.exit ?_; try simp only [thn, inBlk, if_true, reduceIte, Nat.reduceEqDiff])
    | (refine AWP.ret ?_; try dsimp only [thn, inBlk])
    | (refine AWP.condT ?_ ?_; (focus (simp [go_sem]; done)))
    | (refine AWP.condF ?_ ?_; (focus (simp [go_sem]; done)))
    | (apply AWP.rE; (focus (simp [go_sem]; exact ⟨rfl, rfl⟩)); try dsimp only [thn, inBlk])
    | fail)
  refine AWP.callE (by simp [go_sem]; exact ⟨rfl, rfl, rfl, rfl, rfl⟩) (by kernel_rfl) ?_
  refine (indexfunc_calls k hl hm).mono ?_
  rintro r h2 ⟨z, rfl, hz, k3⟩
  rw [← hz]
  refine awpL_restE (by simp [go_sem]; exact ⟨rfl, rfl⟩) ?_; try dsimp only [thn, inBlk]
  (repeat' first
    | refine AWP.seq ?_
    | refine AWP.block ?_
    | (refine AWP.skip ?_; try dsimp only [thn, inBlk])
    | (refine AWP.exit ?_; try simp only [thn, inBlk, if_true, reduceIte, Nat.reduceEqDiff])
    | (refine AWP.ret ?_; try dsimp only [thn, inBlk])
    | (refine AWP.condT ?_ ?_; (focus (simp [go_sem]; done)))
    | (refine AWP.condF ?_ ?_; (focus (simp [go_sem]; done)))
    | (apply AWP.rE; (focus (simp [go_sem]; exact ⟨rfl, rfl⟩)); try dsimp only [thn, inBlk])
    | fail)
  simp [bodyQ, thn, inBlk, resA, resV, go_sem]
  exact k3
end L11

