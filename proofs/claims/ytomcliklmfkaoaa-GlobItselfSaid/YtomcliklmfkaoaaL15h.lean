import Derived.Test.YtomcliklmfkaoaaL15g
open Go Ab Go.Proofs
namespace L15
set_option autoImplicit false
set_option linter.unusedSimpArgs false
set_option linter.unusedVariables false

theorem parseR_bad0 {s : List UInt8} : ((parseR s).2 ≠ 0) ∨ (parseR s).2 = 0 := by omega

set_option maxHeartbeats 8000000 in
theorem itself_calls {h : AHeap} {t x : List UInt8} (hb : h.base = h.next) (ht : t.length ≤ 140737488355328) (hx : x.length ≤ 140737488355328) :
    ACalls Try.prog 7 #[.string ⟨t.toArray⟩, .string ⟨x.toArray⟩] h fun r _ => r = .bool true := by
  refine Own.of_wf fun k0 => ?_
  refine ACalls.of_awp (args := [.string ⟨t.toArray⟩, .string ⟨x.toArray⟩]) (n := 74) Try.func7 rfl rfl (by show 2 ≤ 74; omega) ?_
  (repeat' first
    | refine AWP.seq ?_
    | refine AWP.block ?_
    | (refine AWP.skip ?_; try dsimp only [thn, inBlk])
    | (refine AWP.exit ?_; try simp only [thn, inBlk, if_true, reduceIte, Nat.reduceEqDiff])
    | (refine AWP.ret ?_; try dsimp only [thn, inBlk])
    | (refine AWP.condT ?_ ?_; (focus (simp [go_sem]; done)))
    | (refine AWP.condF ?_ ?_; (focus (simp [go_sem]; done)))
    | (apply AWP.rE; (focus (simp [go_sem]; exact ⟨rfl, rfl⟩)); try dsimp only [thn, inBlk])
    | fail)
  refine AWP.callE (by simp [go_sem]; exact ⟨rfl, rfl, rfl, rfl, rfl⟩) (by kernel_rfl) ?_
  refine (speaks_calls k0).mono ?_
  rintro r h1 ⟨rfl, k1⟩
  by_cases c1 : 15 < t.length
  · have d1 : (15 : Int) < t.length := by omega
    refine awpL_restE (by simp [go_sem]; exact ⟨rfl, rfl⟩) ?_; try dsimp only [thn, inBlk]
    (repeat' first
      | refine AWP.seq ?_
      | refine AWP.block ?_
      | (refine AWP.skip ?_; try dsimp only [thn, inBlk])
      | (refine AWP.exit ?_; try simp only [thn, inBlk, if_true, reduceIte, Nat.reduceEqDiff])
      | (refine AWP.ret ?_; try dsimp only [thn, inBlk])
      | (refine AWP.condT ?_ ?_; (focus (simp [go_sem, d1, c1]; done)))
      | (refine AWP.condF ?_ ?_; (focus (simp [go_sem, d1, c1]; done)))
      | (apply AWP.rE; (focus (simp [go_sem, d1, c1]; exact ⟨rfl, rfl⟩)); try dsimp only [thn, inBlk])
      | fail)
    simp [bodyQ, thn, inBlk, resA, resV, go_sem]
  have d1 : ¬ (15 : Int) < t.length := by omega
  by_cases c2 : 200 < x.length
  · have d2 : (200 : Int) < x.length := by omega
    refine awpL_restE (by simp [go_sem]; exact ⟨rfl, rfl⟩) ?_; try dsimp only [thn, inBlk]
    (repeat' first
      | refine AWP.seq ?_
      | refine AWP.block ?_
      | (refine AWP.skip ?_; try dsimp only [thn, inBlk])
      | (refine AWP.exit ?_; try simp only [thn, inBlk, if_true, reduceIte, Nat.reduceEqDiff])
      | (refine AWP.ret ?_; try dsimp only [thn, inBlk])
      | (refine AWP.condT ?_ ?_; (focus (simp [go_sem, d1, d2, c1, c2]; done)))
      | (refine AWP.condF ?_ ?_; (focus (simp [go_sem, d1, d2, c1, c2]; done)))
      | (apply AWP.rE; (focus (simp [go_sem, d1, d2, c1, c2]; exact ⟨rfl, rfl⟩)); try dsimp only [thn, inBlk])
      | fail)
    simp [bodyQ, thn, inBlk, resA, resV, go_sem]
  have d2 : ¬ (200 : Int) < x.length := by omega
  refine awpL_restE (by simp [go_sem]; exact ⟨rfl, rfl⟩) ?_; try dsimp only [thn, inBlk]
  (repeat' first
    | refine AWP.seq ?_
    | refine AWP.block ?_
    | (refine AWP.skip ?_; try dsimp only [thn, inBlk])
    | (refine AWP.exit ?_; try simp only [thn, inBlk, if_true, reduceIte, Nat.reduceEqDiff])
    | (refine AWP.ret ?_; try dsimp only [thn, inBlk])
    | (refine AWP.condT ?_ ?_; (focus (simp [go_sem, d1, d2, c1, c2]; done)))
    | (refine AWP.condF ?_ ?_; (focus (simp [go_sem, d1, d2, c1, c2]; done)))
    | (apply AWP.rE; (focus (simp [go_sem, d1, d2, c1, c2]; exact ⟨rfl, rfl⟩)); try dsimp only [thn, inBlk])
    | fail)
  refine AWP.loopR [0, 1, 5, 6] (fun m s h' => ∃ (j : Nat), j ≤ t.length ∧ m = t.length - j ∧ s = ⟨74, [(0, .string ⟨t.toArray⟩), (1, .string ⟨x.toArray⟩), (5, .string ⟨(esc (t.take j)).toArray⟩), (6, .int .i64 j)]⟩ ∧ h' = h1) ?_ ?_
  · exact ⟨_, 0, by omega, rfl, by simp [go_sem, esc], rfl⟩
  rintro m s h' ⟨j, hj, rfl, rfl, rfl⟩
  by_cases hj2 : j < t.length
  · have hj3 : (j : Int) < t.length := by omega
    have wj : IntKind.i64.wrap ((j : Int) + 1) = ((j + 1 : Nat) : Int) := by rw [wI64 (by omega) (by omega)]; omega
    have e1 : (t.take (j + 1)).drop j = [t[j]] := by rw [List.take_succ_eq_append_getElem hj2, List.drop_append_of_le_length (by simp; omega)]; simp
    have e2 : esc (t.take (j + 1)) = esc (t.take j) ++ [92, t[j]] := by rw [List.take_succ_eq_append_getElem hj2]; simp only [esc, List.flatMap_append]; rfl
    have e3 : ∀ hh, sliceR Try.prog hh 9 (.string ⟨t.toArray⟩) (some (.int .i64 j)) (some (.int .i64 ((j : Int) + 1))) none = some (.string ⟨#[t[j]]⟩) := fun hh => by
      rw [str_slice (lo := j) (hi := j + 1) Try.underlying9 (by omega) (by omega) (.inr ⟨.i64, rfl⟩) (.inr ⟨.i64, by simp⟩), e1]
    have hl2 := esc_len (t.take j)
    rw [List.length_take, Nat.min_eq_left hj] at hl2
    have hl3 : (esc (t.take j)).length + 2 ≤ 9223372036854775807 := by omega
    (repeat' first
      | refine AWP.seq ?_
      | refine AWP.block ?_
      | (refine AWP.skip ?_; try dsimp only [thn, inBlk])
      | (refine AWP.exit ?_; try simp only [thn, inBlk, if_true, reduceIte, Nat.reduceEqDiff])
      | (refine AWP.ret ?_; try dsimp only [thn, inBlk])
      | (refine AWP.condT ?_ ?_; (focus (simp [go_sem, hj3, hj2, wj, e3, hl3]; done)))
      | (refine AWP.condF ?_ ?_; (focus (simp [go_sem, hj3, hj2, wj, e3, hl3]; done)))
      | (apply AWP.rE; (focus (simp [go_sem, hj3, hj2, wj, e3, hl3]; exact ⟨rfl, rfl⟩)); try dsimp only [thn, inBlk])
      | fail)
    exact ⟨t.length - (j + 1), by omega, j + 1, by omega, rfl, by simp [go_sem, e2], rfl⟩
  · have hj3 : ¬ (j : Int) < t.length := by omega
    obtain rfl : j = t.length := by omega
    rw [List.take_length]
    have hl := esc_len t
    obtain ⟨L1, L2, L3, L4, L5⟩ := law_itself (t := t) (x := x) (by omega)
    (repeat' first
      | refine AWP.seq ?_
      | refine AWP.block ?_
      | (refine AWP.skip ?_; try dsimp only [thn, inBlk])
      | (refine AWP.exit ?_; try simp only [thn, inBlk, if_true, reduceIte, Nat.reduceEqDiff])
      | (refine AWP.ret ?_; try dsimp only [thn, inBlk])
      | (refine AWP.condT ?_ ?_; (focus (simp [go_sem, hj3]; done)))
      | (refine AWP.condF ?_ ?_; (focus (simp [go_sem, hj3]; done)))
      | (apply AWP.rE; (focus (simp [go_sem, hj3]; exact ⟨rfl, rfl⟩)); try dsimp only [thn, inBlk])
      | fail)
    refine AWP.callE (by simp [go_sem]; exact ⟨rfl, rfl, rfl, rfl, rfl⟩) (by kernel_rfl) ?_
    refine (plain_calls (p := esc t) k1 (by omega)).mono ?_
    rintro v h2 ⟨rfl, k2⟩
    rw [L1]
    refine awpL_restE (by simp [go_sem]; exact ⟨rfl, rfl⟩) ?_; try dsimp only [thn, inBlk]
    (repeat' first
      | refine AWP.seq ?_
      | refine AWP.block ?_
      | (refine AWP.skip ?_; try dsimp only [thn, inBlk])
      | (refine AWP.exit ?_; try simp only [thn, inBlk, if_true, reduceIte, Nat.reduceEqDiff])
      | (refine AWP.ret ?_; try dsimp only [thn, inBlk])
      | (refine AWP.condT ?_ ?_; (focus (simp [go_sem]; done)))
      | (refine AWP.condF ?_ ?_; (focus (simp [go_sem]; done)))
      | (apply AWP.rE; (focus (simp [go_sem]; exact ⟨rfl, rfl⟩)); try dsimp only [thn, inBlk])
      | fail)
    refine AWP.callE (by simp [go_sem]; exact ⟨rfl, rfl, rfl, rfl, rfl⟩) (by kernel_rfl) ?_
    refine (match_calls (p := esc t) (t := t) k2 (by omega) (by omega)).mono ?_
    rintro v h3 ⟨rfl, k3⟩
    rw [L2]
    refine awpL_toCall (by simp [go_sem]; exact ⟨rfl, rfl, rfl, rfl, rfl⟩) (by kernel_rfl) ?_
    refine (match_calls (p := esc t) (t := x) k3 (by omega) (by omega)).mono ?_
    rintro v h4 ⟨rfl, k4⟩
    have g1 : 1 + (esc t).length ≤ 9223372036854775807 := by omega
    have g2 : (esc t).length + 1 ≤ 9223372036854775807 := by omega
    have g3 : t.length + x.length ≤ 9223372036854775807 := by omega
    have g4 : x.length + t.length ≤ 9223372036854775807 := by omega
    by_cases htx : t = x
    · rw [L3]
      have hx2 : (decide (t = x)) = true := by simp [htx]
      subst htx
      rw [hx2]
      refine awpL_toCall (by simp [go_sem, g1, g4]; exact ⟨rfl, rfl, rfl, rfl, rfl⟩) (by kernel_rfl) ?_
      refine (match_calls (p := 42 :: esc t) (t := t ++ t) k4 (by simp; omega) (by simp; omega)).mono ?_
      rintro v h5 ⟨rfl, k5⟩
      rw [L4]
      refine awpL_toCall (by simp [go_sem, g2, g3]; exact ⟨rfl, rfl, rfl, rfl, rfl⟩) (by kernel_rfl) ?_
      refine (match_calls (p := esc t ++ [42]) (t := t ++ t) k5 (by simp; omega) (by simp; omega)).mono ?_
      rintro v h6 ⟨rfl, k6⟩
      rw [L5]
      refine awpL_restE (by simp [go_sem]; exact ⟨rfl, rfl⟩) ?_; try dsimp only [thn, inBlk]
      (repeat' first
        | refine AWP.seq ?_
        | refine AWP.block ?_
        | (refine AWP.skip ?_; try dsimp only [thn, inBlk])
        | (refine AWP.exit ?_; try simp only [thn, inBlk, if_true, reduceIte, Nat.reduceEqDiff])
        | (refine AWP.ret ?_; try dsimp only [thn, inBlk])
        | (refine AWP.condT ?_ ?_; (focus (simp [go_sem]; done)))
        | (refine AWP.condF ?_ ?_; (focus (simp [go_sem]; done)))
        | (apply AWP.rE; (focus (simp [go_sem]; exact ⟨rfl, rfl⟩)); try dsimp only [thn, inBlk])
        | fail)
      simp [bodyQ, thn, inBlk, resA, resV, go_sem]
    · rw [L3]
      have hx2 : (decide (t = x)) = false := by simp [htx]
      have hx3 : (t == x) = false := by simp [htx]
      rw [hx2]
      refine awpL_toCall (by simp [go_sem, hx3, g1, g4]; exact ⟨rfl, rfl, rfl, rfl, rfl⟩) (by kernel_rfl) ?_
      refine (match_calls (p := 42 :: esc t) (t := x ++ t) k4 (by simp; omega) (by simp; omega)).mono ?_
      rintro v h5 ⟨rfl, k5⟩
      rw [L4]
      refine awpL_toCall (by simp [go_sem, g2, g3]; exact ⟨rfl, rfl, rfl, rfl, rfl⟩) (by kernel_rfl) ?_
      refine (match_calls (p := esc t ++ [42]) (t := t ++ x) k5 (by simp; omega) (by simp; omega)).mono ?_
      rintro v h6 ⟨rfl, k6⟩
      rw [L5]
      refine awpL_restE (by simp [go_sem, hx3]; exact ⟨rfl, rfl⟩) ?_; try dsimp only [thn, inBlk]
      (repeat' first
        | refine AWP.seq ?_
        | refine AWP.block ?_
        | (refine AWP.skip ?_; try dsimp only [thn, inBlk])
        | (refine AWP.exit ?_; try simp only [thn, inBlk, if_true, reduceIte, Nat.reduceEqDiff])
        | (refine AWP.ret ?_; try dsimp only [thn, inBlk])
        | (refine AWP.condT ?_ ?_; (focus (simp [go_sem]; done)))
        | (refine AWP.condF ?_ ?_; (focus (simp [go_sem]; done)))
        | (apply AWP.rE; (focus (simp [go_sem]; exact ⟨rfl, rfl⟩)); try dsimp only [thn, inBlk])
        | fail)
      simp [bodyQ, thn, inBlk, resA, resV, go_sem]
end L15
