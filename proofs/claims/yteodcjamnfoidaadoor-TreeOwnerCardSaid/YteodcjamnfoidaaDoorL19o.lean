import Derived.Test.YteodcjamnfoidaaDoorL19n
open Go Ab Go.Proofs
namespace L19
set_option autoImplicit false
set_option linter.unusedSimpArgs false
set_option linter.unusedVariables false

theorem tkT2 {M : Nat} {d : List UInt8} (hM : M ≤ 63) (hd : d.length ≤ 1000) : TK (T2 M d) := by
  have := tkT1.wr (who := annB) (p := dfB) (d := d) (z := (M : Int)) (by decide) (by decide)
  rw [wr1, if_neg (by simp [rightB]; omega), if_neg (by omega)] at this
  exact this
theorem bits_own : ∀ M : Fin 64, ((M.val / 8 &&& 4) != 0) = ((M.val / 32 : Nat) != 0) := by decide
theorem bits_oth : ∀ M : Fin 64, ((M.val &&& 4) != 0) = ((M.val / 4 % 2 : Nat) != 0) := by decide

set_option maxHeartbeats 8000000 in
theorem back_calls {h : AHeap} {v : Value} {d who : List UInt8} {z : Int} (hb : h.base = h.next) (hp : Bytes h v d) :
    ACalls Tryd.prog 3 #[v, .int .i64 z, tx who] h fun r _ => r = .bool true := by
  refine Own.of_wf fun k0 => ?_
  obtain ⟨va, vc, rfl⟩ := hp.val
  refine ACalls.of_awp (args := [.slice va d.length vc, .int .i64 z, tx who]) (n := 112) Tryd.func3 rfl rfl (by show 3 ≤ 112; omega) ?_
  (repeat' first
    | refine AWP.seq ?_
    | refine AWP.block ?_
    | (refine AWP.skip ?_; try dsimp only [thn, inBlk])
    | (refine AWP.exit ?_; try simp only [thn, inBlk, if_true, reduceIte, Nat.reduceEqDiff])
    | (refine AWP.ret ?_; try dsimp only [thn, inBlk])
    | (refine AWP.condT ?_ ?_; (focus (simp [go_sem]; done)))
    | (refine AWP.condF ?_ ?_; (focus (simp [go_sem]; done)))
    | (apply AWP.rE; (focus (simp [go_sem]; exact ⟨rfl, rfl⟩)); try dsimp only [thn, inBlk])
    | fail)
  refine AWP.callE (by simp [go_sem]; exact ⟨rfl, rfl, rfl, rfl, rfl⟩) (by kernel_rfl) ?_
  refine (speaks_calls k0).mono ?_
  rintro r h1 ⟨rfl, k1⟩
  refine awpL_restE (by simp [go_sem]; exact ⟨rfl, rfl⟩) ?_; try dsimp only [thn, inBlk]
  by_cases hl : 1500 < d.length
  · have hl' : (1500 : Int) < d.length := by omega
    (repeat' first
      | refine AWP.seq ?_
      | refine AWP.block ?_
      | (refine AWP.skip ?_; try dsimp only [thn, inBlk])
      | (refine AWP.exit ?_; try simp only [thn, inBlk, if_true, reduceIte, Nat.reduceEqDiff])
      | (refine AWP.ret ?_; try dsimp only [thn, inBlk])
      | (refine AWP.condT ?_ ?_; (focus (simp [go_sem, hl']; done)))
      | (refine AWP.condF ?_ ?_; (focus (simp [go_sem, hl']; done)))
      | (apply AWP.rE; (focus (simp [go_sem, hl']; exact ⟨rfl, rfl⟩)); try dsimp only [thn, inBlk])
      | fail)
    simp [bodyQ, thn, inBlk, resA, resV, go_sem]
  have hl' : ¬ (1500 : Int) < d.length := by omega
  by_cases hl2 : 100 < who.length
  · have hl2' : (100 : Int) < who.length := by omega
    (repeat' first
      | refine AWP.seq ?_
      | refine AWP.block ?_
      | (refine AWP.skip ?_; try dsimp only [thn, inBlk])
      | (refine AWP.exit ?_; try simp only [thn, inBlk, if_true, reduceIte, Nat.reduceEqDiff])
      | (refine AWP.ret ?_; try dsimp only [thn, inBlk])
      | (refine AWP.condT ?_ ?_; (focus (simp [go_sem, hl', hl2']; done)))
      | (refine AWP.condF ?_ ?_; (focus (simp [go_sem, hl', hl2']; done)))
      | (apply AWP.rE; (focus (simp [go_sem, hl', hl2']; exact ⟨rfl, rfl⟩)); try dsimp only [thn, inBlk])
      | fail)
    simp [bodyQ, thn, inBlk, resA, resV, go_sem]
  have hl2' : ¬ (100 : Int) < who.length := by omega
  (repeat' first
    | refine AWP.seq ?_
    | refine AWP.block ?_
    | (refine AWP.skip ?_; try dsimp only [thn, inBlk])
    | (refine AWP.exit ?_; try simp only [thn, inBlk, if_true, reduceIte, Nat.reduceEqDiff])
    | (refine AWP.ret ?_; try dsimp only [thn, inBlk])
    | (refine AWP.condT ?_ ?_; (focus (simp [go_sem, hl', hl2']; done)))
    | (refine AWP.condF ?_ ?_; (focus (simp [go_sem, hl', hl2']; done)))
    | (apply AWP.rE; (focus (simp [go_sem, hl', hl2']; exact ⟨rfl, rfl⟩)); try dsimp only [thn, inBlk])
    | fail)
  refine AWP.callE (by simp [go_sem]; exact ⟨rfl, rfl, rfl, rfl, rfl⟩) (by kernel_rfl) ?_
  refine (new_calls k1).mono ?_
  rintro r h2 ⟨i, rfl, k2⟩
  refine awpL_restE (by simp [go_sem]; exact ⟨rfl, rfl⟩) ?_; try dsimp only [thn, inBlk]
  (repeat' first
    | refine AWP.seq ?_
    | refine AWP.block ?_
    | (refine AWP.skip ?_; try dsimp only [thn, inBlk])
    | (refine AWP.exit ?_; try simp only [thn, inBlk, if_true, reduceIte, Nat.reduceEqDiff])
    | (refine AWP.ret ?_; try dsimp only [thn, inBlk])
    | (refine AWP.condT ?_ ?_; (focus (simp [go_sem]; done)))
    | (refine AWP.condF ?_ ?_; (focus (simp [go_sem]; done)))
    | (apply AWP.rE; (focus (simp [go_sem]; exact ⟨rfl, rfl⟩)); try dsimp only [thn, inBlk])
    | fail)
  refine AWP.callE (by simp [go_sem]; exact ⟨rfl, rfl, rfl, rfl, rfl⟩) (by kernel_rfl) ?_
  refine (mkdir_calls (who := rootB) (p := dB) (z := 63) TK.top k2 (by decide)).mono ?_
  rintro r h3 ⟨rfl, k3⟩
  rw [db1] at k3 ⊢
  refine awpL_restE (by simp [go_sem]; exact ⟨rfl, rfl⟩) ?_; try dsimp only [thn, inBlk]
  (repeat' first
    | refine AWP.seq ?_
    | refine AWP.block ?_
    | (refine AWP.skip ?_; try dsimp only [thn, inBlk])
    | (refine AWP.exit ?_; try simp only [thn, inBlk, if_true, reduceIte, Nat.reduceEqDiff])
    | (refine AWP.ret ?_; try dsimp only [thn, inBlk])
    | (refine AWP.condT ?_ ?_; (focus (simp [go_sem]; done)))
    | (refine AWP.condF ?_ ?_; (focus (simp [go_sem]; done)))
    | (apply AWP.rE; (focus (simp [go_sem]; exact ⟨rfl, rfl⟩)); try dsimp only [thn, inBlk])
    | fail)
  refine AWP.callE (by simp [go_sem]; exact ⟨rfl, rfl, rfl, rfl, rfl⟩) (by kernel_rfl) ?_
  refine (write_calls (who := annB) (p := dfB) (d := d) (z := z) tkT1 k3 (fun hh kk => hp.of_old hb kk) (by decide) (by omega)).mono ?_
  rintro r h4 ⟨rfl, k4⟩
  rw [wr1] at k4 ⊢
  by_cases hz0 : z < 0
  · have hr : rightB z = false := by simp [rightB]; omega
    rw [if_pos hr]
    refine awpL_restE (by simp [go_sem]; exact ⟨rfl, rfl⟩) ?_; try dsimp only [thn, inBlk]
    (repeat' first
      | refine AWP.seq ?_
      | refine AWP.block ?_
      | (refine AWP.skip ?_; try dsimp only [thn, inBlk])
      | (refine AWP.exit ?_; try simp only [thn, inBlk, if_true, reduceIte, Nat.reduceEqDiff])
      | (refine AWP.ret ?_; try dsimp only [thn, inBlk])
      | (refine AWP.condT ?_ ?_; (focus (simp [go_sem, hz0]; done)))
      | (refine AWP.condF ?_ ?_; (focus (simp [go_sem, hz0]; done)))
      | (apply AWP.rE; (focus (simp [go_sem, hz0]; exact ⟨rfl, rfl⟩)); try dsimp only [thn, inBlk])
      | fail)
    simp [bodyQ, thn, inBlk, resA, resV, go_sem]
  by_cases hz1 : 63 < z
  · have hr : rightB z = false := by simp [rightB]; omega
    rw [if_pos hr]
    refine awpL_restE (by simp [go_sem]; exact ⟨rfl, rfl⟩) ?_; try dsimp only [thn, inBlk]
    (repeat' first
      | refine AWP.seq ?_
      | refine AWP.block ?_
      | (refine AWP.skip ?_; try dsimp only [thn, inBlk])
      | (refine AWP.exit ?_; try simp only [thn, inBlk, if_true, reduceIte, Nat.reduceEqDiff])
      | (refine AWP.ret ?_; try dsimp only [thn, inBlk])
      | (refine AWP.condT ?_ ?_; (focus (simp [go_sem, hz0, hz1]; done)))
      | (refine AWP.condF ?_ ?_; (focus (simp [go_sem, hz0, hz1]; done)))
      | (apply AWP.rE; (focus (simp [go_sem, hz0, hz1]; exact ⟨rfl, rfl⟩)); try dsimp only [thn, inBlk])
      | fail)
    simp [bodyQ, thn, inBlk, resA, resV, go_sem]
  have hr : ¬ rightB z = false := by simp [rightB]; omega
  rw [if_neg hr] at k4 ⊢
  by_cases hl3 : 1000 < d.length
  · have hl3' : (1000 : Int) < d.length := by omega
    rw [if_pos hl3]
    refine awpL_restE (by simp [go_sem]; exact ⟨rfl, rfl⟩) ?_; try dsimp only [thn, inBlk]
    (repeat' first
      | refine AWP.seq ?_
      | refine AWP.block ?_
      | (refine AWP.skip ?_; try dsimp only [thn, inBlk])
      | (refine AWP.exit ?_; try simp only [thn, inBlk, if_true, reduceIte, Nat.reduceEqDiff])
      | (refine AWP.ret ?_; try dsimp only [thn, inBlk])
      | (refine AWP.condT ?_ ?_; (focus (simp [go_sem, hz0, hz1, hl3']; done)))
      | (refine AWP.condF ?_ ?_; (focus (simp [go_sem, hz0, hz1, hl3']; done)))
      | (apply AWP.rE; (focus (simp [go_sem, hz0, hz1, hl3']; exact ⟨rfl, rfl⟩)); try dsimp only [thn, inBlk])
      | fail)
    simp [bodyQ, thn, inBlk, resA, resV, go_sem]
  have hl3' : ¬ (1000 : Int) < d.length := by omega
  rw [if_neg hl3] at k4 ⊢
  obtain ⟨M, hM⟩ : ∃ M, M = z.toNat := ⟨_, rfl⟩
  have hzM : z = (M : Int) := by omega
  rw [← hM] at k4
  subst hzM
  have hM63 : M ≤ 63 := by omega
  have tk2 := tkT2 (d := d) hM63 (by omega)
  refine awpL_restE (by simp [go_sem]; exact ⟨rfl, rfl⟩) ?_; try dsimp only [thn, inBlk]
  (repeat' first
    | refine AWP.seq ?_
    | refine AWP.block ?_
    | (refine AWP.skip ?_; try dsimp only [thn, inBlk])
    | (refine AWP.exit ?_; try simp only [thn, inBlk, if_true, reduceIte, Nat.reduceEqDiff])
    | (refine AWP.ret ?_; try dsimp only [thn, inBlk])
    | (refine AWP.condT ?_ ?_; (focus (simp [go_sem, hz0, hz1, hl3']; done)))
    | (refine AWP.condF ?_ ?_; (focus (simp [go_sem, hz0, hz1, hl3']; done)))
    | (apply AWP.rE; (focus (simp [go_sem, hz0, hz1, hl3']; exact ⟨rfl, rfl⟩)); try dsimp only [thn, inBlk])
    | fail)
  refine AWP.callE (by simp [go_sem]; exact ⟨rfl, rfl, rfl, rfl, rfl⟩) (by kernel_rfl) ?_
  refine (read_calls (who := who) (p := dfB) tk2 k4 (by decide)).mono ?_
  rintro r h5 ⟨a5, c5, rfl, k5⟩
  refine awpL_restE (by simp [go_sem]; exact ⟨rfl, rfl⟩) ?_; try dsimp only [thn, inBlk]
  (repeat' first
    | refine AWP.seq ?_
    | refine AWP.block ?_
    | (refine AWP.skip ?_; try dsimp only [thn, inBlk])
    | (refine AWP.exit ?_; try simp only [thn, inBlk, if_true, reduceIte, Nat.reduceEqDiff])
    | (refine AWP.ret ?_; try dsimp only [thn, inBlk])
    | (refine AWP.condT ?_ ?_; (focus (simp [go_sem]; done)))
    | (refine AWP.condF ?_ ?_; (focus (simp [go_sem]; done)))
    | (apply AWP.rE; (focus (simp [go_sem]; exact ⟨rfl, rfl⟩)); try dsimp only [thn, inBlk])
    | fail)
  refine AWP.callE (by simp [go_sem]; exact ⟨rfl, rfl, rfl, rfl, rfl⟩) (by kernel_rfl) ?_
  refine (read_calls (who := rootB) (p := dfB) tk2 k5.b1 (by decide)).mono ?_
  rintro r h6 ⟨a6, c6, rfl, k6⟩
  have erd : rdR (T2 M d) rootB dfB = (0, d) := by
    rw [rd2, if_neg]; simp [may]
  have k6c := k6.b2
  rw [erd] at k6 ⊢
  have s1 := k6.ob_bytes.str (P := Tryd.prog) (t := 22) (e := 5) (u := 9) Tryd.underlying22 Tryd.underlying5 Tryd.underlying9
  have s3 := (hp.of_old hb k6).str (P := Tryd.prog) (t := 22) (e := 5) (u := 9) Tryd.underlying22 Tryd.underlying5 Tryd.underlying9
  obtain ⟨Q, hQ⟩ : ∃ Q, Q = M / 4 := ⟨_, rfl⟩
  obtain ⟨Y, hY⟩ : ∃ Y, Y = M / 32 := ⟨_, rfl⟩
  have f4 : (M : Int).fdiv 4 = (Q : Int) := by rw [Int.fdiv_eq_ediv_of_nonneg _ (by omega)]; omega
  have f32 : (M : Int).fdiv 32 = (Y : Int) := by rw [Int.fdiv_eq_ediv_of_nonneg _ (by omega)]; omega
  obtain ⟨X, hX⟩ : ∃ X, X = Q % 2 := ⟨_, rfl⟩
  have wQ : IntKind.i64.wrap ((Q : Int) % 2) = (X : Int) := by rw [wI64 (by omega) (by omega)]; omega
  have bo := bits_own ⟨M, by omega⟩
  have bt := bits_oth ⟨M, by omega⟩
  dsimp only at bo bt
  rw [← hY] at bo
  rw [← hQ, ← hX] at bt
  have zn : ∀ X : Nat, ((X : Int) == 0) = (X == 0) := fun X => by rw [Bool.eq_iff_iff]; simp
  have er := rd2 M d who
  by_cases ha : who = annB
  · have ha' : (who == [97, 110, 110]) = true := by simpa [annB] using ha
    have hr' : (who == [114, 111, 111, 116]) = false := by rw [ha]; decide
    have hmv : may who ⟨false, annB, M, d⟩ 4 = (Y != 0) := by
      unfold may
      rw [if_pos ha, bo, show (who == rootB) = false from hr', Bool.false_or]
    by_cases hY0 : Y = 0
    · have hY' : ((Y : Int) == 0) = true := by simp [hY0]
      have hm : may who ⟨false, annB, M, d⟩ 4 = false := (by rw [hmv, hY0]; rfl)
      rw [if_pos hm] at er
      have k6d := k6c
      rw [er] at k6d ⊢
      refine awpL_restE (by simp [go_sem]; exact ⟨rfl, rfl⟩) ?_; try dsimp only [thn, inBlk]
      (repeat' first
        | refine AWP.seq ?_
        | refine AWP.block ?_
        | (refine AWP.skip ?_; try dsimp only [thn, inBlk])
        | (refine AWP.exit ?_; try simp only [thn, inBlk, if_true, reduceIte, Nat.reduceEqDiff])
        | (refine AWP.ret ?_; try dsimp only [thn, inBlk])
        | (refine AWP.condT ?_ ?_; (focus (simp [go_sem, f4, f32, wQ, ha', hr', hY']; done)))
        | (refine AWP.condF ?_ ?_; (focus (simp [go_sem, f4, f32, wQ, ha', hr', hY']; done)))
        | (apply AWP.rE; (focus (simp [go_sem, f4, f32, wQ, ha', hr', hY']; exact ⟨rfl, rfl⟩)); try dsimp only [thn, inBlk])
        | fail)
      simp [bodyQ, thn, inBlk, resA, resV, go_sem]
    · have hY' : ((Y : Int) == 0) = false := by simp [hY0]
      have hm : ¬ may who ⟨false, annB, M, d⟩ 4 = false := (by rw [hmv]; simp [hY0])
      rw [if_neg hm] at er
      have k6d := k6c
      rw [er] at k6d ⊢
      have s2 := k6d.ob_bytes.str (P := Tryd.prog) (t := 22) (e := 5) (u := 9) Tryd.underlying22 Tryd.underlying5 Tryd.underlying9
      refine awpL_restE (by simp [go_sem]; exact ⟨rfl, rfl⟩) ?_; try dsimp only [thn, inBlk]
      (repeat' first
        | refine AWP.seq ?_
        | refine AWP.block ?_
        | (refine AWP.skip ?_; try dsimp only [thn, inBlk])
        | (refine AWP.exit ?_; try simp only [thn, inBlk, if_true, reduceIte, Nat.reduceEqDiff])
        | (refine AWP.ret ?_; try dsimp only [thn, inBlk])
        | (refine AWP.condT ?_ ?_; (focus (simp [go_sem, f4, f32, wQ, s1, s2, s3, ha', hr', hY']; done)))
        | (refine AWP.condF ?_ ?_; (focus (simp [go_sem, f4, f32, wQ, s1, s2, s3, ha', hr', hY']; done)))
        | (apply AWP.rE; (focus (simp [go_sem, f4, f32, wQ, s1, s2, s3, ha', hr', hY']; exact ⟨rfl, rfl⟩)); try dsimp only [thn, inBlk])
        | fail)
      simp [bodyQ, thn, inBlk, resA, resV, go_sem]
  have ha' : (who == [97, 110, 110]) = false := by simpa [annB] using ha
  by_cases hro : who = rootB
  · have hr' : (who == [114, 111, 111, 116]) = true := by simpa [rootB] using hro
    have hm : ¬ may who ⟨false, annB, M, d⟩ 4 = false := (by simp [may, hro])
    rw [if_neg hm] at er
    have k6d := k6c
    rw [er] at k6d ⊢
    have s2 := k6d.ob_bytes.str (P := Tryd.prog) (t := 22) (e := 5) (u := 9) Tryd.underlying22 Tryd.underlying5 Tryd.underlying9
    refine awpL_restE (by simp [go_sem]; exact ⟨rfl, rfl⟩) ?_; try dsimp only [thn, inBlk]
    (repeat' first
      | refine AWP.seq ?_
      | refine AWP.block ?_
      | (refine AWP.skip ?_; try dsimp only [thn, inBlk])
      | (refine AWP.exit ?_; try simp only [thn, inBlk, if_true, reduceIte, Nat.reduceEqDiff])
      | (refine AWP.ret ?_; try dsimp only [thn, inBlk])
      | (refine AWP.condT ?_ ?_; (focus (simp [go_sem, f4, f32, wQ, s1, s2, s3, ha', hr']; done)))
      | (refine AWP.condF ?_ ?_; (focus (simp [go_sem, f4, f32, wQ, s1, s2, s3, ha', hr']; done)))
      | (apply AWP.rE; (focus (simp [go_sem, f4, f32, wQ, s1, s2, s3, ha', hr']; exact ⟨rfl, rfl⟩)); try dsimp only [thn, inBlk])
      | fail)
    simp [bodyQ, thn, inBlk, resA, resV, go_sem]
  have hr' : (who == [114, 111, 111, 116]) = false := by simpa [rootB] using hro
  have hmv : may who ⟨false, annB, M, d⟩ 4 = (X != 0) := by
    unfold may
    rw [if_neg ha, bt, show (who == rootB) = false from hr', Bool.false_or]
  by_cases hX0 : X = 0
  · have hX' : ((X : Int) == 0) = true := by simp [hX0]
    have hm : may who ⟨false, annB, M, d⟩ 4 = false := (by rw [hmv, hX0]; rfl)
    rw [if_pos hm] at er
    have k6d := k6c
    rw [er] at k6d ⊢
    refine awpL_restE (by simp [go_sem]; exact ⟨rfl, rfl⟩) ?_; try dsimp only [thn, inBlk]
    (repeat' first
      | refine AWP.seq ?_
      | refine AWP.block ?_
      | (refine AWP.skip ?_; try dsimp only [thn, inBlk])
      | (refine AWP.exit ?_; try simp only [thn, inBlk, if_true, reduceIte, Nat.reduceEqDiff])
      | (refine AWP.ret ?_; try dsimp only [thn, inBlk])
      | (refine AWP.condT ?_ ?_; (focus (simp [go_sem, f4, f32, wQ, ha', hr', hX']; done)))
      | (refine AWP.condF ?_ ?_; (focus (simp [go_sem, f4, f32, wQ, ha', hr', hX']; done)))
      | (apply AWP.rE; (focus (simp [go_sem, f4, f32, wQ, ha', hr', hX']; exact ⟨rfl, rfl⟩)); try dsimp only [thn, inBlk])
      | fail)
    simp [bodyQ, thn, inBlk, resA, resV, go_sem]
  · have hX' : ((X : Int) == 0) = false := by simp [hX0]
    have hm : ¬ may who ⟨false, annB, M, d⟩ 4 = false := (by rw [hmv]; simp [hX0])
    rw [if_neg hm] at er
    have k6d := k6c
    rw [er] at k6d ⊢
    have s2 := k6d.ob_bytes.str (P := Tryd.prog) (t := 22) (e := 5) (u := 9) Tryd.underlying22 Tryd.underlying5 Tryd.underlying9
    refine awpL_restE (by simp [go_sem]; exact ⟨rfl, rfl⟩) ?_; try dsimp only [thn, inBlk]
    (repeat' first
      | refine AWP.seq ?_
      | refine AWP.block ?_
      | (refine AWP.skip ?_; try dsimp only [thn, inBlk])
      | (refine AWP.exit ?_; try simp only [thn, inBlk, if_true, reduceIte, Nat.reduceEqDiff])
      | (refine AWP.ret ?_; try dsimp only [thn, inBlk])
      | (refine AWP.condT ?_ ?_; (focus (simp [go_sem, f4, f32, wQ, s1, s2, s3, ha', hr', hX']; done)))
      | (refine AWP.condF ?_ ?_; (focus (simp [go_sem, f4, f32, wQ, s1, s2, s3, ha', hr', hX']; done)))
      | (apply AWP.rE; (focus (simp [go_sem, f4, f32, wQ, s1, s2, s3, ha', hr', hX']; exact ⟨rfl, rfl⟩)); try dsimp only [thn, inBlk])
      | fail)
    simp [bodyQ, thn, inBlk, resA, resV, go_sem]
end L19
