import Derived.Test.YteodcjamnfoidaaDoorL19c
open Go Ab Go.Proofs
namespace L19
set_option autoImplicit false
set_option linter.unusedSimpArgs false
set_option linter.unusedVariables false

/-! ### Names and paths -/
def letter (c : UInt8) : Bool := (decide (97 ≤ c.toNat) && decide (c.toNat ≤ 122)) || (decide (65 ≤ c.toNat) && decide (c.toNat ≤ 90)) || (decide (48 ≤ c.toNat) && decide (c.toNat ≤ 57))
def okc (c : UInt8) : Bool := letter c || c == 45 || c == 46 || c == 95
def nm (l : List UInt8) : Bool := l.all okc && !(l == []) && decide (l.length ≤ 12) && !(l == [46]) && !(l == [46, 46])

theorem bytesA_tx {id : Nat} {l : List UInt8} : bytesA Tryd.prog id 9 22 (tx l) = some (.slice (some ⟨id, 0, none⟩) l.length l.length, .row (l.map B) 5 1 false false) := by
  simp only [bytesA, Tryd.underlying9, Tryd.underlying22, Tryd.underlying5]; rfl
set_option maxHeartbeats 4000000 in
theorem named_calls {O : Old} {h : AHeap} {R : List Chunk} {l : List UInt8} (k : Own O h R) (hm : l.length ≤ 1000000) :
    ACalls Tryd.prog 43 #[tx l] h fun r h' => r = .bool (nm l) ∧ Own O h' R := by
  refine ACalls.of_awp (args := [tx l]) (n := 65) Tryd.func43 rfl rfl (by show 1 ≤ 65; omega) ?_
  have k1 : Own O _ (ob 5 (.slice (some ⟨h.next, 0, none⟩) l.length l.length) l :: R) := (k.push (.row (l.map B) 5 1 false false)).os_mk (n := l.length) (cap := l.length) (off := 0) (cs := l.map B) (Nat.le_refl _) (by simp) (by rw [Nat.mul_one, List.drop_zero, List.take_of_length_le (by simp)])
  (repeat' first
    | refine AWP.seq ?_
    | refine AWP.block ?_
    | (refine AWP.skip ?_; try dsimp only [thn, inBlk])
    | (refine AWP.exit ?_; try simp only [thn, inBlk, if_true, reduceIte, Nat.reduceEqDiff])
    | (refine AWP.ret ?_; try dsimp only [thn, inBlk])
    | (refine AWP.condT ?_ ?_; (focus (simp [go_sem, bytesA_tx]; done)))
    | (refine AWP.condF ?_ ?_; (focus (simp [go_sem, bytesA_tx]; done)))
    | (apply AWP.rE; (focus (simp [go_sem, bytesA_tx]; exact ⟨rfl, rfl⟩)); try dsimp only [thn, inBlk])
    | fail)
  refine AWP.loopR [0, 7, 8, 9] (fun m s h' => ∃ j : Nat, j ≤ l.length ∧ m = l.length - j ∧ s = ⟨65, [(0, tx l), (7, .slice (some ⟨h.next, 0, none⟩) l.length l.length), (8, .int .i64 l.length), (9, .int .i64 j)]⟩ ∧ (l.all okc = (l.drop j).all okc) ∧
    Own O h' (ob 5 (.slice (some ⟨h.next, 0, none⟩) l.length l.length) l :: R)) ?_ ?_
  · exact ⟨_, 0, by omega, rfl, rfl, rfl, k1⟩
  rintro m s h1 ⟨j, hj, rfl, rfl, hI, k2⟩
  by_cases hjm : j < l.length
  rotate_left
  · have hjm' : ¬ (j : Int) < l.length := by omega
    have ha : l.all okc = true := by rw [hI, List.drop_eq_nil_iff.2 (by omega)]; rfl
    by_cases h1 : l = []
    · subst h1
      (repeat' first
        | refine AWP.seq ?_
        | refine AWP.block ?_
        | (refine AWP.skip ?_; try dsimp only [thn, inBlk])
        | (refine AWP.exit ?_; try simp only [thn, inBlk, if_true, reduceIte, Nat.reduceEqDiff])
        | (refine AWP.ret ?_; try dsimp only [thn, inBlk])
        | (refine AWP.condT ?_ ?_; (focus (simp [go_sem, hjm']; done)))
        | (refine AWP.condF ?_ ?_; (focus (simp [go_sem, hjm']; done)))
        | (apply AWP.rE; (focus (simp [go_sem, hjm']; exact ⟨rfl, rfl⟩)); try dsimp only [thn, inBlk])
        | fail)
      simp [bodyQ, thn, inBlk, resA, resV, go_sem]
      exact ⟨rfl, k2.tail⟩
    have h1' : (l == []) = false := by simpa using h1
    by_cases h2 : l.length ≤ 12
    rotate_left
    · have h2' : ¬ (l.length : Int) ≤ 12 := by omega
      have e : nm l = false := by simp [nm, h2]
      rw [e]
      (repeat' first
        | refine AWP.seq ?_
        | refine AWP.block ?_
        | (refine AWP.skip ?_; try dsimp only [thn, inBlk])
        | (refine AWP.exit ?_; try simp only [thn, inBlk, if_true, reduceIte, Nat.reduceEqDiff])
        | (refine AWP.ret ?_; try dsimp only [thn, inBlk])
        | (refine AWP.condT ?_ ?_; (focus (simp [go_sem, hjm', h1', h2']; done)))
        | (refine AWP.condF ?_ ?_; (focus (simp [go_sem, hjm', h1', h2']; done)))
        | (apply AWP.rE; (focus (simp [go_sem, hjm', h1', h2']; exact ⟨rfl, rfl⟩)); try dsimp only [thn, inBlk])
        | fail)
      simp [bodyQ, thn, inBlk, resA, resV, go_sem]
      exact k2.tail
    have h2' : (l.length : Int) ≤ 12 := by omega
    by_cases h3 : l = [46]
    · have h3' : (l == [46]) = true := by simpa using h3
      have e : nm l = false := by simp [nm, h3]
      rw [e]
      (repeat' first
        | refine AWP.seq ?_
        | refine AWP.block ?_
        | (refine AWP.skip ?_; try dsimp only [thn, inBlk])
        | (refine AWP.exit ?_; try simp only [thn, inBlk, if_true, reduceIte, Nat.reduceEqDiff])
        | (refine AWP.ret ?_; try dsimp only [thn, inBlk])
        | (refine AWP.condT ?_ ?_; (focus (simp [go_sem, hjm', h1', h2', h3']; done)))
        | (refine AWP.condF ?_ ?_; (focus (simp [go_sem, hjm', h1', h2', h3']; done)))
        | (apply AWP.rE; (focus (simp [go_sem, hjm', h1', h2', h3']; exact ⟨rfl, rfl⟩)); try dsimp only [thn, inBlk])
        | fail)
      simp [bodyQ, thn, inBlk, resA, resV, go_sem]
      exact k2.tail
    have h3' : (l == [46]) = false := by simpa using h3
    have e : nm l = !(l == [46, 46]) := by simp only [nm, ha, h1', h3', decide_eq_true h2]; simp
    rw [e]
    (repeat' first
      | refine AWP.seq ?_
      | refine AWP.block ?_
      | (refine AWP.skip ?_; try dsimp only [thn, inBlk])
      | (refine AWP.exit ?_; try simp only [thn, inBlk, if_true, reduceIte, Nat.reduceEqDiff])
      | (refine AWP.ret ?_; try dsimp only [thn, inBlk])
      | (refine AWP.condT ?_ ?_; (focus (simp [go_sem, hjm', h1', h2', h3']; done)))
      | (refine AWP.condF ?_ ?_; (focus (simp [go_sem, hjm', h1', h2', h3']; done)))
      | (apply AWP.rE; (focus (simp [go_sem, hjm', h1', h2', h3']; exact ⟨rfl, rfl⟩)); try dsimp only [thn, inBlk])
      | fail)
    simp [bodyQ, thn, inBlk, resA, resV, go_sem]
    exact k2.tail
  have hjm' : (j : Int) < l.length := by omega
  obtain ⟨i0, o0, r0, e0, z0, ti0, ro0, p0, q0, g0⟩ := k2.ob_bytes.at (P := Tryd.prog) (t := 22) Tryd.underlying22 tsz5 (j := j) hjm (kd := .i64)
  have hdr : l.drop j = l[j] :: l.drop (j + 1) := List.drop_eq_getElem_cons hjm
  obtain ⟨c, hcc⟩ : ∃ c, c = l[j] := ⟨_, rfl⟩
  simp only [← hcc] at g0 hdr
  rw [hdr, List.all_cons] at hI
  have w1 : IntKind.i64.wrap ((j : Int) + 1) = ((j + 1 : Nat) : Int) := by rw [wI64 (by omega) (by omega)]; omega
  (repeat' first
    | refine AWP.seq ?_
    | refine AWP.block ?_
    | (refine AWP.skip ?_; try dsimp only [thn, inBlk])
    | (refine AWP.exit ?_; try simp only [thn, inBlk, if_true, reduceIte, Nat.reduceEqDiff])
    | (refine AWP.ret ?_; try dsimp only [thn, inBlk])
    | (refine AWP.condT ?_ ?_; (focus (simp [go_sem, hjm', p0, q0, g0]; done)))
    | (refine AWP.condF ?_ ?_; (focus (simp [go_sem, hjm', p0, q0, g0]; done)))
    | (apply AWP.rE; (focus (simp [go_sem, hjm', p0, q0, g0]; exact ⟨rfl, rfl⟩)); try dsimp only [thn, inBlk])
    | fail)
  refine AWP.cutT [0, 4, 5, 7, 8, 9] (fun s h' => s = ⟨65, [(0, tx l), (4, .int .u8 c.toNat), (5, .bool (letter c)), (7, .slice (some ⟨h.next, 0, none⟩) l.length l.length), (8, .int .i64 l.length), (9, .int .i64 j)]⟩ ∧ h' = h1) ?_ ?_
  · by_cases a1 : (97 : Int) ≤ c.toNat
    · by_cases a2 : (c.toNat : Int) ≤ 122
      · have a3 : True := trivial
        have e : letter c = true := by simp [letter]; omega
        rw [e]
        (repeat' first
          | refine AWP.seq ?_
          | refine AWP.block ?_
          | (refine AWP.skip ?_; try dsimp only [thn, inBlk])
          | (refine AWP.exit ?_; try simp only [thn, inBlk, if_true, reduceIte, Nat.reduceEqDiff])
          | (refine AWP.ret ?_; try dsimp only [thn, inBlk])
          | (refine AWP.condT ?_ ?_; (focus (simp [go_sem, a1, a2]; done)))
          | (refine AWP.condF ?_ ?_; (focus (simp [go_sem, a1, a2]; done)))
          | (apply AWP.rE; (focus (simp [go_sem, a1, a2]; exact ⟨rfl, rfl⟩)); try dsimp only [thn, inBlk])
          | fail)
        exact ⟨by simp [go_sem], rfl⟩
      · have a3 : (65 : Int) ≤ c.toNat := by omega
        have a4 : ¬ (c.toNat : Int) ≤ 90 := by omega
        have a5 : (48 : Int) ≤ c.toNat := by omega
        have a6 : ¬ (c.toNat : Int) ≤ 57 := by omega
        have e : letter c = false := by simp [letter]; omega
        rw [e]
        (repeat' first
          | refine AWP.seq ?_
          | refine AWP.block ?_
          | (refine AWP.skip ?_; try dsimp only [thn, inBlk])
          | (refine AWP.exit ?_; try simp only [thn, inBlk, if_true, reduceIte, Nat.reduceEqDiff])
          | (refine AWP.ret ?_; try dsimp only [thn, inBlk])
          | (refine AWP.condT ?_ ?_; (focus (simp [go_sem, a1, a2, a3, a4, a5, a6]; done)))
          | (refine AWP.condF ?_ ?_; (focus (simp [go_sem, a1, a2, a3, a4, a5, a6]; done)))
          | (apply AWP.rE; (focus (simp [go_sem, a1, a2, a3, a4, a5, a6]; exact ⟨rfl, rfl⟩)); try dsimp only [thn, inBlk])
          | fail)
        exact ⟨by simp [go_sem], rfl⟩
    · by_cases a3 : (65 : Int) ≤ c.toNat
      · by_cases a4 : (c.toNat : Int) ≤ 90
        · have a5 : True := trivial
          have e : letter c = true := by simp [letter]; omega
          rw [e]
          (repeat' first
            | refine AWP.seq ?_
            | refine AWP.block ?_
            | (refine AWP.skip ?_; try dsimp only [thn, inBlk])
            | (refine AWP.exit ?_; try simp only [thn, inBlk, if_true, reduceIte, Nat.reduceEqDiff])
            | (refine AWP.ret ?_; try dsimp only [thn, inBlk])
            | (refine AWP.condT ?_ ?_; (focus (simp [go_sem, a1, a3, a4]; done)))
            | (refine AWP.condF ?_ ?_; (focus (simp [go_sem, a1, a3, a4]; done)))
            | (apply AWP.rE; (focus (simp [go_sem, a1, a3, a4]; exact ⟨rfl, rfl⟩)); try dsimp only [thn, inBlk])
            | fail)
          exact ⟨by simp [go_sem], rfl⟩
        · have a5 : (48 : Int) ≤ c.toNat := by omega
          have a6 : ¬ (c.toNat : Int) ≤ 57 := by omega
          have e : letter c = false := by simp [letter]; omega
          rw [e]
          (repeat' first
            | refine AWP.seq ?_
            | refine AWP.block ?_
            | (refine AWP.skip ?_; try dsimp only [thn, inBlk])
            | (refine AWP.exit ?_; try simp only [thn, inBlk, if_true, reduceIte, Nat.reduceEqDiff])
            | (refine AWP.ret ?_; try dsimp only [thn, inBlk])
            | (refine AWP.condT ?_ ?_; (focus (simp [go_sem, a1, a3, a4, a5, a6]; done)))
            | (refine AWP.condF ?_ ?_; (focus (simp [go_sem, a1, a3, a4, a5, a6]; done)))
            | (apply AWP.rE; (focus (simp [go_sem, a1, a3, a4, a5, a6]; exact ⟨rfl, rfl⟩)); try dsimp only [thn, inBlk])
            | fail)
          exact ⟨by simp [go_sem], rfl⟩
      · by_cases a5 : (48 : Int) ≤ c.toNat
        · by_cases a6 : (c.toNat : Int) ≤ 57
          · have a7 : True := trivial
            have e : letter c = true := by simp [letter]; omega
            rw [e]
            (repeat' first
              | refine AWP.seq ?_
              | refine AWP.block ?_
              | (refine AWP.skip ?_; try dsimp only [thn, inBlk])
              | (refine AWP.exit ?_; try simp only [thn, inBlk, if_true, reduceIte, Nat.reduceEqDiff])
              | (refine AWP.ret ?_; try dsimp only [thn, inBlk])
              | (refine AWP.condT ?_ ?_; (focus (simp [go_sem, a1, a3, a5, a6]; done)))
              | (refine AWP.condF ?_ ?_; (focus (simp [go_sem, a1, a3, a5, a6]; done)))
              | (apply AWP.rE; (focus (simp [go_sem, a1, a3, a5, a6]; exact ⟨rfl, rfl⟩)); try dsimp only [thn, inBlk])
              | fail)
            exact ⟨by simp [go_sem], rfl⟩
          · have a7 : True := trivial
            have e : letter c = false := by simp [letter]; omega
            rw [e]
            (repeat' first
              | refine AWP.seq ?_
              | refine AWP.block ?_
              | (refine AWP.skip ?_; try dsimp only [thn, inBlk])
              | (refine AWP.exit ?_; try simp only [thn, inBlk, if_true, reduceIte, Nat.reduceEqDiff])
              | (refine AWP.ret ?_; try dsimp only [thn, inBlk])
              | (refine AWP.condT ?_ ?_; (focus (simp [go_sem, a1, a3, a5, a6]; done)))
              | (refine AWP.condF ?_ ?_; (focus (simp [go_sem, a1, a3, a5, a6]; done)))
              | (apply AWP.rE; (focus (simp [go_sem, a1, a3, a5, a6]; exact ⟨rfl, rfl⟩)); try dsimp only [thn, inBlk])
              | fail)
            exact ⟨by simp [go_sem], rfl⟩
        · have a7 : True := trivial
          have e : letter c = false := by simp [letter]; omega
          rw [e]
          (repeat' first
            | refine AWP.seq ?_
            | refine AWP.block ?_
            | (refine AWP.skip ?_; try dsimp only [thn, inBlk])
            | (refine AWP.exit ?_; try simp only [thn, inBlk, if_true, reduceIte, Nat.reduceEqDiff])
            | (refine AWP.ret ?_; try dsimp only [thn, inBlk])
            | (refine AWP.condT ?_ ?_; (focus (simp [go_sem, a1, a3, a5]; done)))
            | (refine AWP.condF ?_ ?_; (focus (simp [go_sem, a1, a3, a5]; done)))
            | (apply AWP.rE; (focus (simp [go_sem, a1, a3, a5]; exact ⟨rfl, rfl⟩)); try dsimp only [thn, inBlk])
            | fail)
          exact ⟨by simp [go_sem], rfl⟩
  · rintro s h2 ⟨rfl, rfl⟩
    by_cases b1 : letter c = true
    · have b2 : True := trivial
      have e : okc c = true := by simp [okc, b1]
      rw [e, Bool.true_and] at hI
      (repeat' first
        | refine AWP.seq ?_
        | refine AWP.block ?_
        | (refine AWP.skip ?_; try dsimp only [thn, inBlk])
        | (refine AWP.exit ?_; try simp only [thn, inBlk, if_true, reduceIte, Nat.reduceEqDiff])
        | (refine AWP.ret ?_; try dsimp only [thn, inBlk])
        | (refine AWP.condT ?_ ?_; (focus (simp [go_sem, b1, b2, w1]; done)))
        | (refine AWP.condF ?_ ?_; (focus (simp [go_sem, b1, b2, w1]; done)))
        | (apply AWP.rE; (focus (simp [go_sem, b1, b2, w1]; exact ⟨rfl, rfl⟩)); try dsimp only [thn, inBlk])
        | fail)
      exact ⟨l.length - (j + 1), by omega, j + 1, by omega, rfl, by simp [go_sem], hI, k2⟩
    have b1 : letter c = false := by simpa using b1
    by_cases c1 : c = 45
    · have c1' : ((c.toNat : Int) != 45) = false := by rw [c1]; rfl
      have e : okc c = true := by simp [okc, c1]
      rw [e, Bool.true_and] at hI
      (repeat' first
        | refine AWP.seq ?_
        | refine AWP.block ?_
        | (refine AWP.skip ?_; try dsimp only [thn, inBlk])
        | (refine AWP.exit ?_; try simp only [thn, inBlk, if_true, reduceIte, Nat.reduceEqDiff])
        | (refine AWP.ret ?_; try dsimp only [thn, inBlk])
        | (refine AWP.condT ?_ ?_; (focus (simp [go_sem, b1, c1', w1]; done)))
        | (refine AWP.condF ?_ ?_; (focus (simp [go_sem, b1, c1', w1]; done)))
        | (apply AWP.rE; (focus (simp [go_sem, b1, c1', w1]; exact ⟨rfl, rfl⟩)); try dsimp only [thn, inBlk])
        | fail)
      exact ⟨l.length - (j + 1), by omega, j + 1, by omega, rfl, by simp [go_sem], hI, k2⟩
    have c1' : ((c.toNat : Int) != 45) = true := by have := neB (d := 45) c1; simp at this ⊢; omega
    by_cases c2 : c = 46
    · have c2' : ((c.toNat : Int) != 46) = false := by rw [c2]; rfl
      have e : okc c = true := by simp [okc, c2]
      rw [e, Bool.true_and] at hI
      (repeat' first
        | refine AWP.seq ?_
        | refine AWP.block ?_
        | (refine AWP.skip ?_; try dsimp only [thn, inBlk])
        | (refine AWP.exit ?_; try simp only [thn, inBlk, if_true, reduceIte, Nat.reduceEqDiff])
        | (refine AWP.ret ?_; try dsimp only [thn, inBlk])
        | (refine AWP.condT ?_ ?_; (focus (simp [go_sem, b1, c1', c2', w1]; done)))
        | (refine AWP.condF ?_ ?_; (focus (simp [go_sem, b1, c1', c2', w1]; done)))
        | (apply AWP.rE; (focus (simp [go_sem, b1, c1', c2', w1]; exact ⟨rfl, rfl⟩)); try dsimp only [thn, inBlk])
        | fail)
      exact ⟨l.length - (j + 1), by omega, j + 1, by omega, rfl, by simp [go_sem], hI, k2⟩
    have c2' : ((c.toNat : Int) != 46) = true := by have := neB (d := 46) c2; simp at this ⊢; omega
    by_cases c3 : c = 95
    · have c3' : ((c.toNat : Int) != 95) = false := by rw [c3]; rfl
      have e : okc c = true := by simp [okc, c3]
      rw [e, Bool.true_and] at hI
      (repeat' first
        | refine AWP.seq ?_
        | refine AWP.block ?_
        | (refine AWP.skip ?_; try dsimp only [thn, inBlk])
        | (refine AWP.exit ?_; try simp only [thn, inBlk, if_true, reduceIte, Nat.reduceEqDiff])
        | (refine AWP.ret ?_; try dsimp only [thn, inBlk])
        | (refine AWP.condT ?_ ?_; (focus (simp [go_sem, b1, c1', c2', c3', w1]; done)))
        | (refine AWP.condF ?_ ?_; (focus (simp [go_sem, b1, c1', c2', c3', w1]; done)))
        | (apply AWP.rE; (focus (simp [go_sem, b1, c1', c2', c3', w1]; exact ⟨rfl, rfl⟩)); try dsimp only [thn, inBlk])
        | fail)
      exact ⟨l.length - (j + 1), by omega, j + 1, by omega, rfl, by simp [go_sem], hI, k2⟩
    have c3' : ((c.toNat : Int) != 95) = true := by have := neB (d := 95) c3; simp at this ⊢; omega
    have e : okc c = false := by simp [okc, b1, c1, c2, c3]
    have e2 : nm l = false := by simp only [nm, hI, e]; simp
    rw [e2]
    (repeat' first
      | refine AWP.seq ?_
      | refine AWP.block ?_
      | (refine AWP.skip ?_; try dsimp only [thn, inBlk])
      | (refine AWP.exit ?_; try simp only [thn, inBlk, if_true, reduceIte, Nat.reduceEqDiff])
      | (refine AWP.ret ?_; try dsimp only [thn, inBlk])
      | (refine AWP.condT ?_ ?_; (focus (simp [go_sem, b1, c1', c2', c3']; done)))
      | (refine AWP.condF ?_ ?_; (focus (simp [go_sem, b1, c1', c2', c3']; done)))
      | (apply AWP.rE; (focus (simp [go_sem, b1, c1', c2', c3']; exact ⟨rfl, rfl⟩)); try dsimp only [thn, inBlk])
      | fail)
    simp [bodyQ, thn, inBlk, resA, resV, go_sem]
    exact k2.tail
end L19
