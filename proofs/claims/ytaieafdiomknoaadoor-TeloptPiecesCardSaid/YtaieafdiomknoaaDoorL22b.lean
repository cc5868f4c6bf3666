import Derived.Test.YtaieafdiomknoaaDoorL22a
open Go Ab Go.Proofs
namespace L22
set_option autoImplicit false
set_option linter.unusedSimpArgs false
set_option linter.unusedVariables false

/-! ### Putting a part into bytes -/
theorem rall_calls {O : Old} {h : AHeap} {R : List Chunk} {v o w : Value} {bs : List UInt8} (k : Own O h R) (hx : ∀ h, Own O h R → Bytes h v bs) (ho : ∀ h, Own O h R → Bytes h o [255]) (hw : ∀ h, Own O h R → Bytes h w [255, 255]) (hm : bs.length ≤ 1000000) :
    ACalls Tryd.prog 30 #[v, o, w] h fun r h' => ∃ a cap, r = .slice a (esc bs).length cap ∧ Own O h' (ob 5 (.slice a (esc bs).length cap) (esc bs) :: R) := by
  refine ACalls.of_awp (args := [v, o, w]) (n := 11) Tryd.func30 rfl rfl (by show 3 ≤ 11; omega) ?_
  (repeat' first
    | refine AWP.seq ?_
    | refine AWP.block ?_
    | (refine AWP.skip ?_; try dsimp only [thn, inBlk])
    | (refine AWP.exit ?_; try simp only [thn, inBlk, if_true, reduceIte, Nat.reduceEqDiff])
    | (refine AWP.ret ?_; try dsimp only [thn, inBlk])
    | (refine AWP.condT ?_ ?_; (focus (simp [go_sem]; done)))
    | (refine AWP.condF ?_ ?_; (focus (simp [go_sem]; done)))
    | (apply AWP.rE; (focus (simp [go_sem]; exact ⟨rfl, rfl⟩)); try dsimp only [thn, inBlk])
    | fail)
  refine AWP.callE (by simp [go_sem]; exact ⟨rfl, rfl, rfl, rfl, rfl⟩) (by kernel_rfl) ?_
  refine (replace_calls k hx ho hw hm).mono ?_
  rintro r h' ⟨a, cap, rfl, k1⟩
  refine awpL_restE (by simp [go_sem]; exact ⟨rfl, rfl⟩) ?_; try dsimp only [thn, inBlk]
  (repeat' first
    | refine AWP.seq ?_
    | refine AWP.block ?_
    | (refine AWP.skip ?_; try dsimp only [thn, inBlk])
    | (refine AWP.exit ?_; try simp only [thn, inBlk, if_true, reduceIte, Nat.reduceEqDiff])
    | (refine AWP.ret ?_; try dsimp only [thn, inBlk])
    | (refine AWP.condT ?_ ?_; (focus (simp [go_sem]; done)))
    | (refine AWP.condF ?_ ?_; (focus (simp [go_sem]; done)))
    | (apply AWP.rE; (focus (simp [go_sem]; exact ⟨rfl, rfl⟩)); try dsimp only [thn, inBlk])
    | fail)
  simp [bodyQ, thn, inBlk, resA, resV, go_sem]
  exact ⟨_, _, ⟨rfl, rfl⟩, k1⟩

theorem escaped_calls {O : Old} {h : AHeap} {R : List Chunk} {v : Value} {bs : List UInt8} (k : Own O h R) (hx : ∀ h, Own O h R → Bytes h v bs) (hm : bs.length ≤ 1000000) :
    ACalls Tryd.prog 23 #[v] h fun r h' => ∃ a cap, r = .slice a (esc bs).length cap ∧ Own O h' (ob 5 (.slice a (esc bs).length cap) (esc bs) :: R) := by
  refine ACalls.of_awp (args := [v]) (n := 9) Tryd.func23 rfl rfl (by show 1 ≤ 9; omega) ?_
  have k1 := k.fresh (e := 5) (bs := [255])
  have k2 := k1.fresh (e := 5) (bs := [255, 255])
  (repeat' first
    | refine AWP.seq ?_
    | refine AWP.block ?_
    | (refine AWP.skip ?_; try dsimp only [thn, inBlk])
    | (refine AWP.exit ?_; try simp only [thn, inBlk, if_true, reduceIte, Nat.reduceEqDiff])
    | (refine AWP.ret ?_; try dsimp only [thn, inBlk])
    | (refine AWP.condT ?_ ?_; (focus (simp [go_sem]; done)))
    | (refine AWP.condF ?_ ?_; (focus (simp [go_sem]; done)))
    | (apply AWP.rE; (focus (simp [go_sem]; exact ⟨rfl, rfl⟩)); try dsimp only [thn, inBlk])
    | fail)
  refine AWP.callE (by simp [go_sem]; exact ⟨rfl, rfl, rfl, rfl, rfl⟩) (by kernel_rfl) ?_
  refine (rall_calls k2 (fun h q => hx h q.tail.tail) (fun h q => q.tail.ob_bytes) (fun h q => q.ob_bytes) hm).mono ?_
  rintro r h' ⟨a, cap, rfl, k3⟩
  refine awpL_restE (by simp [go_sem]; exact ⟨rfl, rfl⟩) ?_; try dsimp only [thn, inBlk]
  (repeat' first
    | refine AWP.seq ?_
    | refine AWP.block ?_
    | (refine AWP.skip ?_; try dsimp only [thn, inBlk])
    | (refine AWP.exit ?_; try simp only [thn, inBlk, if_true, reduceIte, Nat.reduceEqDiff])
    | (refine AWP.ret ?_; try dsimp only [thn, inBlk])
    | (refine AWP.condT ?_ ?_; (focus (simp [go_sem]; done)))
    | (refine AWP.condF ?_ ?_; (focus (simp [go_sem]; done)))
    | (apply AWP.rE; (focus (simp [go_sem]; exact ⟨rfl, rfl⟩)); try dsimp only [thn, inBlk])
    | fail)
  simp [bodyQ, thn, inBlk, resA, resV, go_sem]
  exact ⟨_, _, ⟨rfl, rfl⟩, k3.d2.d1⟩

/-- What is wrong with a part. -/
def right (k v o : Int) (n : Nat) : Int :=
  if k < 1 ∨ 3 < k then 1 else if k ≠ 1 ∧ (o < 0 ∨ 255 < o) then 1 else if k = 2 then (if v < 251 ∨ 254 < v then 1 else 0) else if 3000 < n then 23 else 0

abbrev tel (k v o : Int) (d : Value) : Value := .agg #[.int .i64 k, .int .i64 v, .int .i64 o, d]
abbrev telc (k v o : Int) (d : Value) : List Value := [.int .i64 k, .int .i64 v, .int .i64 o, d]
abbrev trow (k v o : Int) (d : Value) : AObj := .row (telc k v o d) 24 4 true false

set_option maxHeartbeats 2000000 in
theorem right_calls {O : Old} {h : AHeap} {R : List Chunk} {a : Option Addr} {n cap : Nat} {kd v o : Int} (k : Own O h R) :
    ACalls Tryd.prog 22 #[tel kd v o (.slice a n cap)] h fun r h' => r = .int .i64 (right kd v o n) ∧ Own O h' R := by
  refine ACalls.of_awp (args := [tel kd v o (.slice a n cap)]) (n := 43) Tryd.func22 rfl rfl (by show 1 ≤ 43; omega) ?_
  have k1 := k.push (trow kd v o (.slice a n cap))
  have k2 := k1.tail
  by_cases h2 : kd = 2
  · subst h2
    by_cases ho : o < 0
    · have e : right 2 v o n = 1 := by simp [right, ho]
      have ho1 : ¬ 0 ≤ o := by omega
      (repeat' first
        | refine AWP.seq ?_
        | refine AWP.block ?_
        | (refine AWP.skip ?_; try dsimp only [thn, inBlk])
        | (refine AWP.exit ?_; try simp only [thn, inBlk, if_true, reduceIte, Nat.reduceEqDiff])
        | (refine AWP.ret ?_; try dsimp only [thn, inBlk])
        | (refine AWP.condT ?_ ?_; (focus (simp [go_sem, ho1]; done)))
        | (refine AWP.condF ?_ ?_; (focus (simp [go_sem, ho1]; done)))
        | (apply AWP.rE; (focus (simp [go_sem, ho1]; exact ⟨rfl, rfl⟩)); try dsimp only [thn, inBlk])
        | fail)
      simp [bodyQ, thn, inBlk, resA, resV, go_sem, e]
      exact k2
    have ho1 : 0 ≤ o := by omega
    by_cases ho2 : 255 < o
    · have e : right 2 v o n = 1 := by simp [right, ho2]
      have ho3 : ¬ o ≤ 255 := by omega
      (repeat' first
        | refine AWP.seq ?_
        | refine AWP.block ?_
        | (refine AWP.skip ?_; try dsimp only [thn, inBlk])
        | (refine AWP.exit ?_; try simp only [thn, inBlk, if_true, reduceIte, Nat.reduceEqDiff])
        | (refine AWP.ret ?_; try dsimp only [thn, inBlk])
        | (refine AWP.condT ?_ ?_; (focus (simp [go_sem, ho1, ho3]; done)))
        | (refine AWP.condF ?_ ?_; (focus (simp [go_sem, ho1, ho3]; done)))
        | (apply AWP.rE; (focus (simp [go_sem, ho1, ho3]; exact ⟨rfl, rfl⟩)); try dsimp only [thn, inBlk])
        | fail)
      simp [bodyQ, thn, inBlk, resA, resV, go_sem, e]
      exact k2
    have ho3 : o ≤ 255 := by omega
    by_cases hv : v < 251
    · have e : right 2 v o n = 1 := by simp [right, hv]
      (repeat' first
        | refine AWP.seq ?_
        | refine AWP.block ?_
        | (refine AWP.skip ?_; try dsimp only [thn, inBlk])
        | (refine AWP.exit ?_; try simp only [thn, inBlk, if_true, reduceIte, Nat.reduceEqDiff])
        | (refine AWP.ret ?_; try dsimp only [thn, inBlk])
        | (refine AWP.condT ?_ ?_; (focus (simp [go_sem, ho1, ho3, hv]; done)))
        | (refine AWP.condF ?_ ?_; (focus (simp [go_sem, ho1, ho3, hv]; done)))
        | (apply AWP.rE; (focus (simp [go_sem, ho1, ho3, hv]; exact ⟨rfl, rfl⟩)); try dsimp only [thn, inBlk])
        | fail)
      simp [bodyQ, thn, inBlk, resA, resV, go_sem, e]
      exact k2
    by_cases hv2 : 254 < v
    · have e : right 2 v o n = 1 := by simp [right, hv2]
      (repeat' first
        | refine AWP.seq ?_
        | refine AWP.block ?_
        | (refine AWP.skip ?_; try dsimp only [thn, inBlk])
        | (refine AWP.exit ?_; try simp only [thn, inBlk, if_true, reduceIte, Nat.reduceEqDiff])
        | (refine AWP.ret ?_; try dsimp only [thn, inBlk])
        | (refine AWP.condT ?_ ?_; (focus (simp [go_sem, ho1, ho3, hv, hv2]; done)))
        | (refine AWP.condF ?_ ?_; (focus (simp [go_sem, ho1, ho3, hv, hv2]; done)))
        | (apply AWP.rE; (focus (simp [go_sem, ho1, ho3, hv, hv2]; exact ⟨rfl, rfl⟩)); try dsimp only [thn, inBlk])
        | fail)
      simp [bodyQ, thn, inBlk, resA, resV, go_sem, e]
      exact k2
    have e : right 2 v o n = 0 := by simp [right]; omega
    (repeat' first
      | refine AWP.seq ?_
      | refine AWP.block ?_
      | (refine AWP.skip ?_; try dsimp only [thn, inBlk])
      | (refine AWP.exit ?_; try simp only [thn, inBlk, if_true, reduceIte, Nat.reduceEqDiff])
      | (refine AWP.ret ?_; try dsimp only [thn, inBlk])
      | (refine AWP.condT ?_ ?_; (focus (simp [go_sem, ho1, ho3, hv, hv2]; done)))
      | (refine AWP.condF ?_ ?_; (focus (simp [go_sem, ho1, ho3, hv, hv2]; done)))
      | (apply AWP.rE; (focus (simp [go_sem, ho1, ho3, hv, hv2]; exact ⟨rfl, rfl⟩)); try dsimp only [thn, inBlk])
      | fail)
    simp [bodyQ, thn, inBlk, resA, resV, go_sem, e]
    exact k2
  have h2' : (kd == 2) = false := by simpa using h2
  by_cases h3 : kd = 3
  · subst h3
    by_cases ho : o < 0
    · have e : right 3 v o n = 1 := by simp [right, ho]
      have ho1 : ¬ 0 ≤ o := by omega
      (repeat' first
        | refine AWP.seq ?_
        | refine AWP.block ?_
        | (refine AWP.skip ?_; try dsimp only [thn, inBlk])
        | (refine AWP.exit ?_; try simp only [thn, inBlk, if_true, reduceIte, Nat.reduceEqDiff])
        | (refine AWP.ret ?_; try dsimp only [thn, inBlk])
        | (refine AWP.condT ?_ ?_; (focus (simp [go_sem, ho1]; done)))
        | (refine AWP.condF ?_ ?_; (focus (simp [go_sem, ho1]; done)))
        | (apply AWP.rE; (focus (simp [go_sem, ho1]; exact ⟨rfl, rfl⟩)); try dsimp only [thn, inBlk])
        | fail)
      simp [bodyQ, thn, inBlk, resA, resV, go_sem, e]
      exact k2
    have ho1 : 0 ≤ o := by omega
    by_cases ho2 : 255 < o
    · have e : right 3 v o n = 1 := by simp [right, ho2]
      have ho3 : ¬ o ≤ 255 := by omega
      (repeat' first
        | refine AWP.seq ?_
        | refine AWP.block ?_
        | (refine AWP.skip ?_; try dsimp only [thn, inBlk])
        | (refine AWP.exit ?_; try simp only [thn, inBlk, if_true, reduceIte, Nat.reduceEqDiff])
        | (refine AWP.ret ?_; try dsimp only [thn, inBlk])
        | (refine AWP.condT ?_ ?_; (focus (simp [go_sem, ho1, ho3]; done)))
        | (refine AWP.condF ?_ ?_; (focus (simp [go_sem, ho1, ho3]; done)))
        | (apply AWP.rE; (focus (simp [go_sem, ho1, ho3]; exact ⟨rfl, rfl⟩)); try dsimp only [thn, inBlk])
        | fail)
      simp [bodyQ, thn, inBlk, resA, resV, go_sem, e]
      exact k2
    have ho3 : o ≤ 255 := by omega
    by_cases hn : 3000 < n
    · have e : right 3 v o n = 23 := by simp [right, hn]; omega
      have hn' : (3000 : Int) < n := by omega
      (repeat' first
        | refine AWP.seq ?_
        | refine AWP.block ?_
        | (refine AWP.skip ?_; try dsimp only [thn, inBlk])
        | (refine AWP.exit ?_; try simp only [thn, inBlk, if_true, reduceIte, Nat.reduceEqDiff])
        | (refine AWP.ret ?_; try dsimp only [thn, inBlk])
        | (refine AWP.condT ?_ ?_; (focus (simp [go_sem, ho1, ho3, hn']; done)))
        | (refine AWP.condF ?_ ?_; (focus (simp [go_sem, ho1, ho3, hn']; done)))
        | (apply AWP.rE; (focus (simp [go_sem, ho1, ho3, hn']; exact ⟨rfl, rfl⟩)); try dsimp only [thn, inBlk])
        | fail)
      simp [bodyQ, thn, inBlk, resA, resV, go_sem, e]
      exact k2
    have e : right 3 v o n = 0 := by simp [right, hn]; omega
    have hn' : ¬ (3000 : Int) < n := by omega
    (repeat' first
      | refine AWP.seq ?_
      | refine AWP.block ?_
      | (refine AWP.skip ?_; try dsimp only [thn, inBlk])
      | (refine AWP.exit ?_; try simp only [thn, inBlk, if_true, reduceIte, Nat.reduceEqDiff])
      | (refine AWP.ret ?_; try dsimp only [thn, inBlk])
      | (refine AWP.condT ?_ ?_; (focus (simp [go_sem, ho1, ho3, hn']; done)))
      | (refine AWP.condF ?_ ?_; (focus (simp [go_sem, ho1, ho3, hn']; done)))
      | (apply AWP.rE; (focus (simp [go_sem, ho1, ho3, hn']; exact ⟨rfl, rfl⟩)); try dsimp only [thn, inBlk])
      | fail)
    simp [bodyQ, thn, inBlk, resA, resV, go_sem, e]
    exact k2
  have h3' : (kd == 3) = false := by simpa using h3
  by_cases h1 : kd = 1
  · subst h1
    by_cases hn : 3000 < n
    · have e : right 1 v o n = 23 := by simp [right, hn]
      have hn' : (3000 : Int) < n := by omega
      rcases Int.lt_or_le o 0 with ho1 | ho1
      · have ho1 : ¬ 0 ≤ o := by omega
        (repeat' first
          | refine AWP.seq ?_
          | refine AWP.block ?_
          | (refine AWP.skip ?_; try dsimp only [thn, inBlk])
          | (refine AWP.exit ?_; try simp only [thn, inBlk, if_true, reduceIte, Nat.reduceEqDiff])
          | (refine AWP.ret ?_; try dsimp only [thn, inBlk])
          | (refine AWP.condT ?_ ?_; (focus (simp [go_sem, ho1, hn']; done)))
          | (refine AWP.condF ?_ ?_; (focus (simp [go_sem, ho1, hn']; done)))
          | (apply AWP.rE; (focus (simp [go_sem, ho1, hn']; exact ⟨rfl, rfl⟩)); try dsimp only [thn, inBlk])
          | fail)
        simp [bodyQ, thn, inBlk, resA, resV, go_sem, e]
        exact k2
      · (repeat' first
          | refine AWP.seq ?_
          | refine AWP.block ?_
          | (refine AWP.skip ?_; try dsimp only [thn, inBlk])
          | (refine AWP.exit ?_; try simp only [thn, inBlk, if_true, reduceIte, Nat.reduceEqDiff])
          | (refine AWP.ret ?_; try dsimp only [thn, inBlk])
          | (refine AWP.condT ?_ ?_; (focus (simp [go_sem, ho1, hn']; done)))
          | (refine AWP.condF ?_ ?_; (focus (simp [go_sem, ho1, hn']; done)))
          | (apply AWP.rE; (focus (simp [go_sem, ho1, hn']; exact ⟨rfl, rfl⟩)); try dsimp only [thn, inBlk])
          | fail)
        simp [bodyQ, thn, inBlk, resA, resV, go_sem, e]
        exact k2
    have e : right 1 v o n = 0 := by simp [right, hn]
    have hn' : ¬ (3000 : Int) < n := by omega
    rcases Int.lt_or_le o 0 with ho1 | ho1
    · have ho1 : ¬ 0 ≤ o := by omega
      (repeat' first
        | refine AWP.seq ?_
        | refine AWP.block ?_
        | (refine AWP.skip ?_; try dsimp only [thn, inBlk])
        | (refine AWP.exit ?_; try simp only [thn, inBlk, if_true, reduceIte, Nat.reduceEqDiff])
        | (refine AWP.ret ?_; try dsimp only [thn, inBlk])
        | (refine AWP.condT ?_ ?_; (focus (simp [go_sem, ho1, hn']; done)))
        | (refine AWP.condF ?_ ?_; (focus (simp [go_sem, ho1, hn']; done)))
        | (apply AWP.rE; (focus (simp [go_sem, ho1, hn']; exact ⟨rfl, rfl⟩)); try dsimp only [thn, inBlk])
        | fail)
      simp [bodyQ, thn, inBlk, resA, resV, go_sem, e]
      exact k2
    · (repeat' first
        | refine AWP.seq ?_
        | refine AWP.block ?_
        | (refine AWP.skip ?_; try dsimp only [thn, inBlk])
        | (refine AWP.exit ?_; try simp only [thn, inBlk, if_true, reduceIte, Nat.reduceEqDiff])
        | (refine AWP.ret ?_; try dsimp only [thn, inBlk])
        | (refine AWP.condT ?_ ?_; (focus (simp [go_sem, ho1, hn']; done)))
        | (refine AWP.condF ?_ ?_; (focus (simp [go_sem, ho1, hn']; done)))
        | (apply AWP.rE; (focus (simp [go_sem, ho1, hn']; exact ⟨rfl, rfl⟩)); try dsimp only [thn, inBlk])
        | fail)
      simp [bodyQ, thn, inBlk, resA, resV, go_sem, e]
      exact k2
  have h1' : (kd == 1) = false := by simpa using h1
  have e : right kd v o n = 1 := by simp only [right]; rw [if_pos (by omega)]
  rcases Int.lt_or_le o 0 with ho1 | ho1
  · have ho1 : ¬ 0 ≤ o := by omega
    (repeat' first
      | refine AWP.seq ?_
      | refine AWP.block ?_
      | (refine AWP.skip ?_; try dsimp only [thn, inBlk])
      | (refine AWP.exit ?_; try simp only [thn, inBlk, if_true, reduceIte, Nat.reduceEqDiff])
      | (refine AWP.ret ?_; try dsimp only [thn, inBlk])
      | (refine AWP.condT ?_ ?_; (focus (simp [go_sem, h1', h2', h3', ho1]; done)))
      | (refine AWP.condF ?_ ?_; (focus (simp [go_sem, h1', h2', h3', ho1]; done)))
      | (apply AWP.rE; (focus (simp [go_sem, h1', h2', h3', ho1]; exact ⟨rfl, rfl⟩)); try dsimp only [thn, inBlk])
      | fail)
    simp [bodyQ, thn, inBlk, resA, resV, go_sem, e]
    exact k2
  · (repeat' first
      | refine AWP.seq ?_
      | refine AWP.block ?_
      | (refine AWP.skip ?_; try dsimp only [thn, inBlk])
      | (refine AWP.exit ?_; try simp only [thn, inBlk, if_true, reduceIte, Nat.reduceEqDiff])
      | (refine AWP.ret ?_; try dsimp only [thn, inBlk])
      | (refine AWP.condT ?_ ?_; (focus (simp [go_sem, h1', h2', h3', ho1]; done)))
      | (refine AWP.condF ?_ ?_; (focus (simp [go_sem, h1', h2', h3', ho1]; done)))
      | (apply AWP.rE; (focus (simp [go_sem, h1', h2', h3', ho1]; exact ⟨rfl, rfl⟩)); try dsimp only [thn, inBlk])
      | fail)
    simp [bodyQ, thn, inBlk, resA, resV, go_sem, e]
    exact k2
end L22
