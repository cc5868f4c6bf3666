import Derived.Test.YtomcliklmfkaoaaL15h
import Derived.Test.YtomcliklmfkaoaaAbWalk3
open Go Ab Go.Proofs
namespace L15
set_option autoImplicit false
set_option linter.unusedSimpArgs false
set_option linter.unusedVariables false

theorem strR_one (h : AHeap) (i : Nat) (c : UInt8) (hi : i = h.next) : strR Try.prog (h.push (.row [.int .u8 c.toNat] 5 1 true false)) 28 9 (.slice (some ⟨i, 0, none⟩) 1 1) = some (.string ⟨#[c]⟩) :=
  strR_new (bs := [c]) Try.underlying28 Try.underlying5 Try.underlying9 hi rfl


set_option maxHeartbeats 8000000 in
theorem sets_calls {h : AHeap} {s : List UInt8} {c : UInt8} (hb : h.base = h.next) (hs : s.length ≤ 140737488355328) :
    ACalls Try.prog 5 #[.string ⟨s.toArray⟩, .int .u8 c.toNat] h fun r _ => r = .bool true := by
  refine Own.of_wf fun k0 => ?_
  refine ACalls.of_awp (args := [.string ⟨s.toArray⟩, .int .u8 c.toNat]) (n := 76) Try.func5 rfl rfl (by show 2 ≤ 76; omega) ?_
  (repeat' first
    | refine AWP.seq ?_
    | refine AWP.block ?_
    | (refine AWP.skip ?_; try dsimp only [thn, inBlk])
    | (refine AWP.exit ?_; try simp only [thn, inBlk, if_true, reduceIte, Nat.reduceEqDiff])
    | (refine AWP.ret ?_; try dsimp only [thn, inBlk])
    | (refine AWP.condT ?_ ?_; (focus (simp [go_sem]; done)))
    | (refine AWP.condF ?_ ?_; (focus (simp [go_sem]; done)))
    | (apply AWP.rE; (focus (simp [go_sem]; exact ⟨rfl, rfl⟩)); try dsimp only [thn, inBlk])
    | fail)
  refine AWP.callE (by simp [go_sem]; exact ⟨rfl, rfl, rfl, rfl, rfl⟩) (by kernel_rfl) ?_
  refine (speaks_calls k0).mono ?_
  rintro r h1 ⟨rfl, k1⟩
  by_cases c1 : 20 < s.length
  · have d1 : (20 : Int) < s.length := by omega
    refine awpL_restE (by simp [go_sem]; exact ⟨rfl, rfl⟩) ?_; try dsimp only [thn, inBlk]
    (repeat' first
      | refine AWP.seq ?_
      | refine AWP.block ?_
      | (refine AWP.skip ?_; try dsimp only [thn, inBlk])
      | (refine AWP.exit ?_; try simp only [thn, inBlk, if_true, reduceIte, Nat.reduceEqDiff])
      | (refine AWP.ret ?_; try dsimp only [thn, inBlk])
      | (refine AWP.condT ?_ ?_; (focus (simp [go_sem, d1, c1]; done)))
      | (refine AWP.condF ?_ ?_; (focus (simp [go_sem, d1, c1]; done)))
      | (apply AWP.rE; (focus (simp [go_sem, d1, c1]; exact ⟨rfl, rfl⟩)); try dsimp only [thn, inBlk])
      | fail)
    simp [bodyQ, thn, inBlk, resA, resV, go_sem]
  have d1 : ¬ (20 : Int) < s.length := by omega
  by_cases c2 : ∃ s', s = 33 :: s'
  · obtain ⟨s', rfl⟩ := c2
    have i0 := sidx0 (l := 33 :: s') rfl
    have d2 : ¬ (20 : Int) < (s'.length : Int) + 1 := by simp at d1; omega
    have d3 : (0 : Int) < (s'.length : Int) + 1 := by omega
    refine awpL_restE (by simp [go_sem]; exact ⟨rfl, rfl⟩) ?_; try dsimp only [thn, inBlk]
    (repeat' first
      | refine AWP.seq ?_
      | refine AWP.block ?_
      | (refine AWP.skip ?_; try dsimp only [thn, inBlk])
      | (refine AWP.exit ?_; try simp only [thn, inBlk, if_true, reduceIte, Nat.reduceEqDiff])
      | (refine AWP.ret ?_; try dsimp only [thn, inBlk])
      | (refine AWP.condT ?_ ?_; (focus (simp [go_sem, d2, d3, i0]; done)))
      | (refine AWP.condF ?_ ?_; (focus (simp [go_sem, d2, d3, i0]; done)))
      | (apply AWP.rE; (focus (simp [go_sem, d2, d3, i0]; exact ⟨rfl, rfl⟩)); try dsimp only [thn, inBlk])
      | fail)
    simp [bodyQ, thn, inBlk, resA, resV, go_sem]
  have hgo : ∀ u, s ++ [93] ≠ 33 :: u := fun u e => by
    cases s with
    | nil => cases e
    | cons x s' => rw [List.cons_append] at e; injection e with e1 e2; exact c2 ⟨s', by rw [e1]⟩
  have code := sets_code (s := s ++ [93]) (by simp; omega) hgo
  have q1 : 1 + s.length ≤ 9223372036854775807 := by omega
  have q2 : s.length + 1 + 1 ≤ 9223372036854775807 := by omega
  have q3 : 2 + s.length ≤ 9223372036854775807 := by omega
  have q4 : s.length + 2 + 1 ≤ 9223372036854775807 := by omega
  by_cases c3 : 0 < s.length
  · have d3 : (0 : Int) < s.length := by omega
    obtain ⟨x, i0, nx⟩ : ∃ x : UInt8, indexP Try.prog 9 (.string ⟨s.toArray⟩) (.int .i64 0) = some (.int .u8 x.toNat) ∧ ((x.toNat : Int) == 33) = false := by
      cases s with
      | nil => cases c3
      | cons x s' => exact ⟨x, sidx0 rfl, neI (d := 33) fun e => c2 ⟨s', by rw [e]⟩⟩
    refine awpL_restE (by simp [go_sem, d1,d3,c1,c3,i0,nx]; exact ⟨rfl, rfl⟩) ?_; try dsimp only [thn, inBlk]
    (repeat' first
      | refine AWP.seq ?_
      | refine AWP.block ?_
      | (refine AWP.skip ?_; try dsimp only [thn, inBlk])
      | (refine AWP.exit ?_; try simp only [thn, inBlk, if_true, reduceIte, Nat.reduceEqDiff])
      | (refine AWP.ret ?_; try dsimp only [thn, inBlk])
      | (refine AWP.condT ?_ ?_; (focus (simp [go_sem, d1,d3,c1,c3,i0,nx, q1, q2, q3, q4]; done)))
      | (refine AWP.condF ?_ ?_; (focus (simp [go_sem, d1,d3,c1,c3,i0,nx, q1, q2, q3, q4]; done)))
      | (apply AWP.rE; (focus (simp [go_sem, d1,d3,c1,c3,i0,nx, q1, q2, q3, q4]; exact ⟨rfl, rfl⟩)); try dsimp only [thn, inBlk])
      | fail)
    refine AWP.callE (by simp [go_sem]; exact ⟨rfl, rfl, rfl, rfl, rfl⟩) (by kernel_rfl) ?_
    refine (check_calls (p := 91 :: (s ++ [93])) k1 (by simp; omega)).mono ?_
    rintro r h2 ⟨rfl, k2⟩
    by_cases cp : (parseR (91 :: (s ++ [93]))).2 = 0
    rotate_left
    · have dp : (((parseR (91 :: (s ++ [93]))).2 : Int) != 0) = true := by simp [cp]
      refine awpL_restE (by simp [go_sem, dp]; exact ⟨rfl, rfl⟩) ?_; try dsimp only [thn, inBlk]
      (repeat' first
        | refine AWP.seq ?_
        | refine AWP.block ?_
        | (refine AWP.skip ?_; try dsimp only [thn, inBlk])
        | (refine AWP.exit ?_; try simp only [thn, inBlk, if_true, reduceIte, Nat.reduceEqDiff])
        | (refine AWP.ret ?_; try dsimp only [thn, inBlk])
        | (refine AWP.condT ?_ ?_; (focus (simp [go_sem]; done)))
        | (refine AWP.condF ?_ ?_; (focus (simp [go_sem]; done)))
        | (apply AWP.rE; (focus (simp [go_sem]; exact ⟨rfl, rfl⟩)); try dsimp only [thn, inBlk])
        | fail)
      refine AWP.callE (by simp [go_sem]; exact ⟨rfl, rfl, rfl, rfl, rfl⟩) (by kernel_rfl) ?_
      refine (check_calls (p := 91 :: (s ++ [93])) k2 (by simp; omega)).mono ?_
      rintro r h3 ⟨rfl, k3⟩
      refine awpL_toCall (by simp [go_sem]; exact ⟨rfl, rfl, rfl, rfl, rfl⟩) (by kernel_rfl) ?_
      refine (check_calls (p := 91 :: 33 :: (s ++ [93])) k3 (by simp; omega)).mono ?_
      rintro r h4 ⟨rfl, k4⟩
      rw [code]
      refine awpL_restE (by simp [go_sem]; exact ⟨rfl, rfl⟩) ?_; try dsimp only [thn, inBlk]
      (repeat' first
        | refine AWP.seq ?_
        | refine AWP.block ?_
        | (refine AWP.skip ?_; try dsimp only [thn, inBlk])
        | (refine AWP.exit ?_; try simp only [thn, inBlk, if_true, reduceIte, Nat.reduceEqDiff])
        | (refine AWP.ret ?_; try dsimp only [thn, inBlk])
        | (refine AWP.condT ?_ ?_; (focus (simp [go_sem]; done)))
        | (refine AWP.condF ?_ ?_; (focus (simp [go_sem]; done)))
        | (apply AWP.rE; (focus (simp [go_sem]; exact ⟨rfl, rfl⟩)); try dsimp only [thn, inBlk])
        | fail)
      simp [bodyQ, thn, inBlk, resA, resV, go_sem]
    have cq : (parseR (91 :: 33 :: (s ++ [93]))).2 = 0 := by rw [← code]; exact cp
    rw [cp]
    refine awpL_toCall (by simp [go_sem]; exact ⟨rfl, rfl, rfl, rfl, rfl⟩) (by kernel_rfl) ?_
    refine (check_calls (p := 91 :: 33 :: (s ++ [93])) k2 (by simp; omega)).mono ?_
    rintro r h3 ⟨rfl, k3⟩
    rw [cq]
    refine awpL_restE (by simp [go_sem]; exact ⟨rfl, rfl⟩) ?_; try dsimp only [thn, inBlk]
    (repeat' first
      | refine AWP.seq ?_
      | refine AWP.block ?_
      | (refine AWP.skip ?_; try dsimp only [thn, inBlk])
      | (refine AWP.exit ?_; try simp only [thn, inBlk, if_true, reduceIte, Nat.reduceEqDiff])
      | (refine AWP.ret ?_; try dsimp only [thn, inBlk])
      | (refine AWP.condT ?_ ?_; (focus (simp [go_sem]; done)))
      | (refine AWP.condF ?_ ?_; (focus (simp [go_sem]; done)))
      | (apply AWP.rE; (focus (simp [go_sem]; exact ⟨rfl, rfl⟩)); try dsimp only [thn, inBlk])
      | fail)
    refine AWP.loopR [0, 1, 5, 6, 7] (fun m s' h' => ∃ (j : Nat), j ≤ s.length ∧ m = s.length - j ∧ (∀ (i : Nat) (x : UInt8), i < j → s[i]? = some x → x ≠ 93) ∧ s' = ⟨76, [(0, .string ⟨s.toArray⟩), (1, .int .u8 c.toNat), (5, .string ⟨(91 :: (s ++ [93])).toArray⟩), (6, .string ⟨(91 :: 33 :: (s ++ [93])).toArray⟩), (7, .int .i64 j)]⟩ ∧ h' = h3) ?_ ?_
    · exact ⟨_, 0, by omega, rfl, by omega, by simp [go_sem], rfl⟩
    rintro m s' h' ⟨j, hj, rfl, hno, rfl, rfl⟩
    by_cases hj2 : j < s.length
    · have hj3 : (j : Int) < s.length := by omega
      have wj : IntKind.i64.wrap ((j : Int) + 1) = ((j + 1 : Nat) : Int) := by rw [wI64 (by omega) (by omega)]; omega
      have ix := str_index (P := Try.prog) Try.underlying9 hj2 (kd := .i64)
      by_cases hx : s[j] = 93
      · have hx' : ((s[j].toNat : Int) == 93) = true := by rw [hx]; rfl
        (repeat' first
          | refine AWP.seq ?_
          | refine AWP.block ?_
          | (refine AWP.skip ?_; try dsimp only [thn, inBlk])
          | (refine AWP.exit ?_; try simp only [thn, inBlk, if_true, reduceIte, Nat.reduceEqDiff])
          | (refine AWP.ret ?_; try dsimp only [thn, inBlk])
          | (refine AWP.condT ?_ ?_; (focus (simp [go_sem, hj3, wj, ix, hx']; done)))
          | (refine AWP.condF ?_ ?_; (focus (simp [go_sem, hj3, wj, ix, hx']; done)))
          | (apply AWP.rE; (focus (simp [go_sem, hj3, wj, ix, hx']; exact ⟨rfl, rfl⟩)); try dsimp only [thn, inBlk])
          | fail)
        simp [bodyQ, thn, inBlk, resA, resV, go_sem]
      · have hx' : ((s[j].toNat : Int) == 93) = false := neI (d := 93) hx
        (repeat' first
          | refine AWP.seq ?_
          | refine AWP.block ?_
          | (refine AWP.skip ?_; try dsimp only [thn, inBlk])
          | (refine AWP.exit ?_; try simp only [thn, inBlk, if_true, reduceIte, Nat.reduceEqDiff])
          | (refine AWP.ret ?_; try dsimp only [thn, inBlk])
          | (refine AWP.condT ?_ ?_; (focus (simp [go_sem, hj3, wj, ix, hx']; done)))
          | (refine AWP.condF ?_ ?_; (focus (simp [go_sem, hj3, wj, ix, hx']; done)))
          | (apply AWP.rE; (focus (simp [go_sem, hj3, wj, ix, hx']; exact ⟨rfl, rfl⟩)); try dsimp only [thn, inBlk])
          | fail)
        refine ⟨s.length - (j + 1), by omega, j + 1, by omega, rfl, ?_, by simp [go_sem], rfl⟩
        intro i x hi he
        by_cases hij : i = j
        · subst hij
          rw [List.getElem?_eq_getElem hj2] at he
          cases he; exact hx
        · exact hno i x (by omega) he
    · have hj3 : ¬ (j : Int) < s.length := by omega
      have hno' : ∀ x ∈ s, x ≠ 93 := fun x hx => by
        obtain ⟨i, hi, rfl⟩ := List.mem_iff_getElem.1 hx
        exact hno i _ (by omega) (List.getElem?_eq_getElem hi)
      obtain ⟨L1, L2, L3⟩ := law_sets (by omega) hgo hno' cp c
      have b1 := buildSlice1 (P := Try.prog) (id := h'.next) Try.underlying28 tsz5 tz5 (by omega) (by show 1 ≠ 0; omega) (by omega) (by rfl) (cs := [.int .u8 c.toNat]) rfl
      have b2 := strR_one h' h'.next c rfl
      have k4 := k3.push (.row [.int .u8 c.toNat] 5 1 true false)
      have hn : matchR (91 :: 33 :: (s ++ [93])) [c] = !matchR (91 :: (s ++ [93])) [c] := by
        cases e1 : matchR (91 :: (s ++ [93])) [c] <;> cases e2 : matchR (91 :: 33 :: (s ++ [93])) [c] <;> simp [e1, e2] at L1 ⊢
      (repeat' first
        | refine AWP.seq ?_
        | refine AWP.block ?_
        | (refine AWP.skip ?_; try dsimp only [thn, inBlk])
        | (refine AWP.exit ?_; try simp only [thn, inBlk, if_true, reduceIte, Nat.reduceEqDiff])
        | (refine AWP.ret ?_; try dsimp only [thn, inBlk])
        | (refine AWP.condT ?_ ?_; (focus (simp [go_sem, hj3, b1, b2]; done)))
        | (refine AWP.condF ?_ ?_; (focus (simp [go_sem, hj3, b1, b2]; done)))
        | (apply AWP.rE; (focus (simp [go_sem, hj3, b1, b2]; exact ⟨rfl, rfl⟩)); try dsimp only [thn, inBlk])
        | fail)
      refine AWP.callE (by simp [go_sem]; exact ⟨rfl, rfl, rfl, rfl, rfl⟩) (by kernel_rfl) ?_
      refine (match_calls (p := 91 :: (s ++ [93])) (t := [c]) k4 (by simp; omega) (by simp)).mono ?_
      rintro r h5 ⟨rfl, k5⟩
      refine awpL_toCall (by simp [go_sem]; exact ⟨rfl, rfl, rfl, rfl, rfl⟩) (by kernel_rfl) ?_
      refine (match_calls (p := 91 :: 33 :: (s ++ [93])) (t := [c]) k5 (by simp; omega) (by simp)).mono ?_
      rintro r h6 ⟨rfl, k6⟩
      rw [hn]
      generalize matchR (91 :: (s ++ [93])) [c] = b
      have hbb : (b != !b) = true := by cases b <;> rfl
      refine awpL_toCall (by simp [go_sem, hbb]; exact ⟨rfl, rfl, rfl, rfl, rfl⟩) (by kernel_rfl) ?_
      refine (match_calls (p := 91 :: (s ++ [93])) (t := []) k6 (by simp; omega) (by simp)).mono ?_
      rintro r h7 ⟨rfl, k7⟩
      rw [L2]
      refine awpL_toCall (by simp [go_sem]; exact ⟨rfl, rfl, rfl, rfl, rfl⟩) (by kernel_rfl) ?_
      refine (match_calls (p := 91 :: 33 :: (s ++ [93])) (t := [c, c]) k7 (by simp; omega) (by simp)).mono ?_
      rintro r h8 ⟨rfl, k8⟩
      rw [L3]
      refine awpL_restE (by simp [go_sem]; exact ⟨rfl, rfl⟩) ?_; try dsimp only [thn, inBlk]
      (repeat' first
        | refine AWP.seq ?_
        | refine AWP.block ?_
        | (refine AWP.skip ?_; try dsimp only [thn, inBlk])
        | (refine AWP.exit ?_; try simp only [thn, inBlk, if_true, reduceIte, Nat.reduceEqDiff])
        | (refine AWP.ret ?_; try dsimp only [thn, inBlk])
        | (refine AWP.condT ?_ ?_; (focus (simp [go_sem]; done)))
        | (refine AWP.condF ?_ ?_; (focus (simp [go_sem]; done)))
        | (apply AWP.rE; (focus (simp [go_sem]; exact ⟨rfl, rfl⟩)); try dsimp only [thn, inBlk])
        | fail)
      simp [bodyQ, thn, inBlk, resA, resV, go_sem]
  · have d3 : ¬ (0 : Int) < s.length := by omega
    refine awpL_restE (by simp [go_sem, d1,d3,c1,c3]; exact ⟨rfl, rfl⟩) ?_; try dsimp only [thn, inBlk]
    (repeat' first
      | refine AWP.seq ?_
      | refine AWP.block ?_
      | (refine AWP.skip ?_; try dsimp only [thn, inBlk])
      | (refine AWP.exit ?_; try simp only [thn, inBlk, if_true, reduceIte, Nat.reduceEqDiff])
      | (refine AWP.ret ?_; try dsimp only [thn, inBlk])
      | (refine AWP.condT ?_ ?_; (focus (simp [go_sem, d1,d3,c1,c3, q1, q2, q3, q4]; done)))
      | (refine AWP.condF ?_ ?_; (focus (simp [go_sem, d1,d3,c1,c3, q1, q2, q3, q4]; done)))
      | (apply AWP.rE; (focus (simp [go_sem, d1,d3,c1,c3, q1, q2, q3, q4]; exact ⟨rfl, rfl⟩)); try dsimp only [thn, inBlk])
      | fail)
    refine AWP.callE (by simp [go_sem]; exact ⟨rfl, rfl, rfl, rfl, rfl⟩) (by kernel_rfl) ?_
    refine (check_calls (p := 91 :: (s ++ [93])) k1 (by simp; omega)).mono ?_
    rintro r h2 ⟨rfl, k2⟩
    by_cases cp : (parseR (91 :: (s ++ [93]))).2 = 0
    rotate_left
    · have dp : (((parseR (91 :: (s ++ [93]))).2 : Int) != 0) = true := by simp [cp]
      refine awpL_restE (by simp [go_sem, dp]; exact ⟨rfl, rfl⟩) ?_; try dsimp only [thn, inBlk]
      (repeat' first
        | refine AWP.seq ?_
        | refine AWP.block ?_
        | (refine AWP.skip ?_; try dsimp only [thn, inBlk])
        | (refine AWP.exit ?_; try simp only [thn, inBlk, if_true, reduceIte, Nat.reduceEqDiff])
        | (refine AWP.ret ?_; try dsimp only [thn, inBlk])
        | (refine AWP.condT ?_ ?_; (focus (simp [go_sem]; done)))
        | (refine AWP.condF ?_ ?_; (focus (simp [go_sem]; done)))
        | (apply AWP.rE; (focus (simp [go_sem]; exact ⟨rfl, rfl⟩)); try dsimp only [thn, inBlk])
        | fail)
      refine AWP.callE (by simp [go_sem]; exact ⟨rfl, rfl, rfl, rfl, rfl⟩) (by kernel_rfl) ?_
      refine (check_calls (p := 91 :: (s ++ [93])) k2 (by simp; omega)).mono ?_
      rintro r h3 ⟨rfl, k3⟩
      refine awpL_toCall (by simp [go_sem]; exact ⟨rfl, rfl, rfl, rfl, rfl⟩) (by kernel_rfl) ?_
      refine (check_calls (p := 91 :: 33 :: (s ++ [93])) k3 (by simp; omega)).mono ?_
      rintro r h4 ⟨rfl, k4⟩
      rw [code]
      refine awpL_restE (by simp [go_sem]; exact ⟨rfl, rfl⟩) ?_; try dsimp only [thn, inBlk]
      (repeat' first
        | refine AWP.seq ?_
        | refine AWP.block ?_
        | (refine AWP.skip ?_; try dsimp only [thn, inBlk])
        | (refine AWP.exit ?_; try simp only [thn, inBlk, if_true, reduceIte, Nat.reduceEqDiff])
        | (refine AWP.ret ?_; try dsimp only [thn, inBlk])
        | (refine AWP.condT ?_ ?_; (focus (simp [go_sem]; done)))
        | (refine AWP.condF ?_ ?_; (focus (simp [go_sem]; done)))
        | (apply AWP.rE; (focus (simp [go_sem]; exact ⟨rfl, rfl⟩)); try dsimp only [thn, inBlk])
        | fail)
      simp [bodyQ, thn, inBlk, resA, resV, go_sem]
    have cq : (parseR (91 :: 33 :: (s ++ [93]))).2 = 0 := by rw [← code]; exact cp
    rw [cp]
    refine awpL_toCall (by simp [go_sem]; exact ⟨rfl, rfl, rfl, rfl, rfl⟩) (by kernel_rfl) ?_
    refine (check_calls (p := 91 :: 33 :: (s ++ [93])) k2 (by simp; omega)).mono ?_
    rintro r h3 ⟨rfl, k3⟩
    rw [cq]
    refine awpL_restE (by simp [go_sem]; exact ⟨rfl, rfl⟩) ?_; try dsimp only [thn, inBlk]
    (repeat' first
      | refine AWP.seq ?_
      | refine AWP.block ?_
      | (refine AWP.skip ?_; try dsimp only [thn, inBlk])
      | (refine AWP.exit ?_; try simp only [thn, inBlk, if_true, reduceIte, Nat.reduceEqDiff])
      | (refine AWP.ret ?_; try dsimp only [thn, inBlk])
      | (refine AWP.condT ?_ ?_; (focus (simp [go_sem]; done)))
      | (refine AWP.condF ?_ ?_; (focus (simp [go_sem]; done)))
      | (apply AWP.rE; (focus (simp [go_sem]; exact ⟨rfl, rfl⟩)); try dsimp only [thn, inBlk])
      | fail)
    refine AWP.loopR [0, 1, 5, 6, 7] (fun m s' h' => ∃ (j : Nat), j ≤ s.length ∧ m = s.length - j ∧ (∀ (i : Nat) (x : UInt8), i < j → s[i]? = some x → x ≠ 93) ∧ s' = ⟨76, [(0, .string ⟨s.toArray⟩), (1, .int .u8 c.toNat), (5, .string ⟨(91 :: (s ++ [93])).toArray⟩), (6, .string ⟨(91 :: 33 :: (s ++ [93])).toArray⟩), (7, .int .i64 j)]⟩ ∧ h' = h3) ?_ ?_
    · exact ⟨_, 0, by omega, rfl, by omega, by simp [go_sem], rfl⟩
    rintro m s' h' ⟨j, hj, rfl, hno, rfl, rfl⟩
    by_cases hj2 : j < s.length
    · have hj3 : (j : Int) < s.length := by omega
      have wj : IntKind.i64.wrap ((j : Int) + 1) = ((j + 1 : Nat) : Int) := by rw [wI64 (by omega) (by omega)]; omega
      have ix := str_index (P := Try.prog) Try.underlying9 hj2 (kd := .i64)
      by_cases hx : s[j] = 93
      · have hx' : ((s[j].toNat : Int) == 93) = true := by rw [hx]; rfl
        (repeat' first
          | refine AWP.seq ?_
          | refine AWP.block ?_
          | (refine AWP.skip ?_; try dsimp only [thn, inBlk])
          | (refine AWP.exit ?_; try simp only [thn, inBlk, if_true, reduceIte, Nat.reduceEqDiff])
          | (refine AWP.ret ?_; try dsimp only [thn, inBlk])
          | (refine AWP.condT ?_ ?_; (focus (simp [go_sem, hj3, wj, ix, hx']; done)))
          | (refine AWP.condF ?_ ?_; (focus (simp [go_sem, hj3, wj, ix, hx']; done)))
          | (apply AWP.rE; (focus (simp [go_sem, hj3, wj, ix, hx']; exact ⟨rfl, rfl⟩)); try dsimp only [thn, inBlk])
          | fail)
        simp [bodyQ, thn, inBlk, resA, resV, go_sem]
      · have hx' : ((s[j].toNat : Int) == 93) = false := neI (d := 93) hx
        (repeat' first
          | refine AWP.seq ?_
          | refine AWP.block ?_
          | (refine AWP.skip ?_; try dsimp only [thn, inBlk])
          | (refine AWP.exit ?_; try simp only [thn, inBlk, if_true, reduceIte, Nat.reduceEqDiff])
          | (refine AWP.ret ?_; try dsimp only [thn, inBlk])
          | (refine AWP.condT ?_ ?_; (focus (simp [go_sem, hj3, wj, ix, hx']; done)))
          | (refine AWP.condF ?_ ?_; (focus (simp [go_sem, hj3, wj, ix, hx']; done)))
          | (apply AWP.rE; (focus (simp [go_sem, hj3, wj, ix, hx']; exact ⟨rfl, rfl⟩)); try dsimp only [thn, inBlk])
          | fail)
        refine ⟨s.length - (j + 1), by omega, j + 1, by omega, rfl, ?_, by simp [go_sem], rfl⟩
        intro i x hi he
        by_cases hij : i = j
        · subst hij
          rw [List.getElem?_eq_getElem hj2] at he
          cases he; exact hx
        · exact hno i x (by omega) he
    · have hj3 : ¬ (j : Int) < s.length := by omega
      have hno' : ∀ x ∈ s, x ≠ 93 := fun x hx => by
        obtain ⟨i, hi, rfl⟩ := List.mem_iff_getElem.1 hx
        exact hno i _ (by omega) (List.getElem?_eq_getElem hi)
      obtain ⟨L1, L2, L3⟩ := law_sets (by omega) hgo hno' cp c
      have b1 := buildSlice1 (P := Try.prog) (id := h'.next) Try.underlying28 tsz5 tz5 (by omega) (by show 1 ≠ 0; omega) (by omega) (by rfl) (cs := [.int .u8 c.toNat]) rfl
      have b2 := strR_one h' h'.next c rfl
      have k4 := k3.push (.row [.int .u8 c.toNat] 5 1 true false)
      have hn : matchR (91 :: 33 :: (s ++ [93])) [c] = !matchR (91 :: (s ++ [93])) [c] := by
        cases e1 : matchR (91 :: (s ++ [93])) [c] <;> cases e2 : matchR (91 :: 33 :: (s ++ [93])) [c] <;> simp [e1, e2] at L1 ⊢
      (repeat' first
        | refine AWP.seq ?_
        | refine AWP.block ?_
        | (refine AWP.skip ?_; try dsimp only [thn, inBlk])
        | (refine AWP.exit ?_; try simp only [thn, inBlk, if_true, reduceIte, Nat.reduceEqDiff])
        | (refine AWP.ret ?_; try dsimp only [thn, inBlk])
        | (refine AWP.condT ?_ ?_; (focus (simp [go_sem, hj3, b1, b2]; done)))
        | (refine AWP.condF ?_ ?_; (focus (simp [go_sem, hj3, b1, b2]; done)))
        | (apply AWP.rE; (focus (simp [go_sem, hj3, b1, b2]; exact ⟨rfl, rfl⟩)); try dsimp only [thn, inBlk])
        | fail)
      refine AWP.callE (by simp [go_sem]; exact ⟨rfl, rfl, rfl, rfl, rfl⟩) (by kernel_rfl) ?_
      refine (match_calls (p := 91 :: (s ++ [93])) (t := [c]) k4 (by simp; omega) (by simp)).mono ?_
      rintro r h5 ⟨rfl, k5⟩
      refine awpL_toCall (by simp [go_sem]; exact ⟨rfl, rfl, rfl, rfl, rfl⟩) (by kernel_rfl) ?_
      refine (match_calls (p := 91 :: 33 :: (s ++ [93])) (t := [c]) k5 (by simp; omega) (by simp)).mono ?_
      rintro r h6 ⟨rfl, k6⟩
      rw [hn]
      generalize matchR (91 :: (s ++ [93])) [c] = b
      have hbb : (b != !b) = true := by cases b <;> rfl
      refine awpL_toCall (by simp [go_sem, hbb]; exact ⟨rfl, rfl, rfl, rfl, rfl⟩) (by kernel_rfl) ?_
      refine (match_calls (p := 91 :: (s ++ [93])) (t := []) k6 (by simp; omega) (by simp)).mono ?_
      rintro r h7 ⟨rfl, k7⟩
      rw [L2]
      refine awpL_toCall (by simp [go_sem]; exact ⟨rfl, rfl, rfl, rfl, rfl⟩) (by kernel_rfl) ?_
      refine (match_calls (p := 91 :: 33 :: (s ++ [93])) (t := [c, c]) k7 (by simp; omega) (by simp)).mono ?_
      rintro r h8 ⟨rfl, k8⟩
      rw [L3]
      refine awpL_restE (by simp [go_sem]; exact ⟨rfl, rfl⟩) ?_; try dsimp only [thn, inBlk]
      (repeat' first
        | refine AWP.seq ?_
        | refine AWP.block ?_
        | (refine AWP.skip ?_; try dsimp only [thn, inBlk])
        | (refine AWP.exit ?_; try simp only [thn, inBlk, if_true, reduceIte, Nat.reduceEqDiff])
        | (refine AWP.ret ?_; try dsimp only [thn, inBlk])
        | (refine AWP.condT ?_ ?_; (focus (simp [go_sem]; done)))
        | (refine AWP.condF ?_ ?_; (focus (simp [go_sem]; done)))
        | (apply AWP.rE; (focus (simp [go_sem]; exact ⟨rfl, rfl⟩)); try dsimp only [thn, inBlk])
        | fail)
      simp [bodyQ, thn, inBlk, resA, resV, go_sem]
end L15
