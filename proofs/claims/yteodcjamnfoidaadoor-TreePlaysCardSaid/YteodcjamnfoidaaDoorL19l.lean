import Derived.Test.YteodcjamnfoidaaDoorL19k
open Go Ab Go.Proofs
namespace L19
set_option autoImplicit false
set_option linter.unusedSimpArgs false
set_option linter.unusedVariables false
section
variable {O : Old} {h : AHeap} {R : List Chunk} {i m : Nat} {T : TL} {ws : List Wd}
theorem node_own {h : AHeap} {j : Nat} {x : List UInt8 × Nd} {w : Wd} (k : Own O h (tro i m T ws ++ R)) (t1 : T[j]? = some x) (t2 : ws[j]? = some w) :
    Own O h (cell w.1 (nrow x w) :: ob 5 (.slice w.2.1 x.2.data.length w.2.2) x.2.data :: ((nsubs T ws).eraseIdx j ++ (cell i (trow m) :: mch m T ws :: R))) := node_open k t1 t2
set_option maxHeartbeats 8000000 in
theorem chmod_calls {who p : List UInt8} {z : Int} (hI : TK T) (k : Own O h (tr i T :: R)) (hp : p.length ≤ 900000) :
    ACalls Tryd.prog 14 #[ptr i, tx who, tx p, .int .i64 z] h fun r h' => r = .int .i64 (chR T who p z).1 ∧ Own O h' (tr i (chR T who p z).2 :: R) := by
  obtain ⟨m, ws, hw, k0⟩ := tr_iff.1 k
  refine ACalls.of_awp (args := [ptr i, tx who, tx p, .int .i64 z]) (n := 44) Tryd.func14 rfl rfl (by show 4 ≤ 44; omega) ?_
  (repeat' first
    | refine AWP.seq ?_
    | refine AWP.block ?_
    | (refine AWP.skip ?_; try dsimp only [thn, inBlk])
    | (refine AWP.exit ?_; try simp only [thn, inBlk, if_true, reduceIte, Nat.reduceEqDiff])
    | (refine AWP.ret ?_; try dsimp only [thn, inBlk])
    | (refine AWP.condT ?_ ?_; (focus (simp [go_sem]; done)))
    | (refine AWP.condF ?_ ?_; (focus (simp [go_sem]; done)))
    | (apply AWP.rE; (focus (simp [go_sem]; exact ⟨rfl, rfl⟩)); try dsimp only [thn, inBlk])
    | fail)
  refine AWP.callE (by simp [go_sem]; exact ⟨rfl, rfl, rfl, rfl, rfl⟩) (by kernel_rfl) ?_
  refine (come_calls (who := who) hI.toTI hw k0 hp).mono ?_
  rintro r h1 ⟨rfl, k1⟩
  have kT := tr_iff.2 ⟨m, ws, hw, k1⟩
  by_cases hc : comeE T who p = 0
  rotate_left
  · have hc' : (comeE T who p != 0) = true := by simpa using hc
    have e : chR T who p z = (comeE T who p, T) := by simp [chR, hc]
    rw [if_neg hc, e]
    refine awpL_restE (by simp [go_sem]; exact ⟨rfl, rfl⟩) ?_; try dsimp only [thn, inBlk]
    (repeat' first
      | refine AWP.seq ?_
      | refine AWP.block ?_
      | (refine AWP.skip ?_; try dsimp only [thn, inBlk])
      | (refine AWP.exit ?_; try simp only [thn, inBlk, if_true, reduceIte, Nat.reduceEqDiff])
      | (refine AWP.ret ?_; try dsimp only [thn, inBlk])
      | (refine AWP.condT ?_ ?_; (focus (simp [go_sem, hc']; done)))
      | (refine AWP.condF ?_ ?_; (focus (simp [go_sem, hc']; done)))
      | (apply AWP.rE; (focus (simp [go_sem, hc']; exact ⟨rfl, rfl⟩)); try dsimp only [thn, inBlk])
      | fail)
    simp [bodyQ, thn, inBlk, resA, resV, go_sem]
    exact kT
  rw [if_pos hc, hc]
  refine awpL_restE (by simp [go_sem]; exact ⟨rfl, rfl⟩) ?_; try dsimp only [thn, inBlk]
  (repeat' first
    | refine AWP.seq ?_
    | refine AWP.block ?_
    | (refine AWP.skip ?_; try dsimp only [thn, inBlk])
    | (refine AWP.exit ?_; try simp only [thn, inBlk, if_true, reduceIte, Nat.reduceEqDiff])
    | (refine AWP.ret ?_; try dsimp only [thn, inBlk])
    | (refine AWP.condT ?_ ?_; (focus (simp [go_sem]; done)))
    | (refine AWP.condF ?_ ?_; (focus (simp [go_sem]; done)))
    | (apply AWP.rE; (focus (simp [go_sem]; exact ⟨rfl, rfl⟩)); try dsimp only [thn, inBlk])
    | fail)
  refine AWP.callE (by simp [go_sem]; exact ⟨rfl, rfl, rfl, rfl, rfl⟩) (by kernel_rfl) ?_
  refine (right_calls (z := z)).mono ?_
  rintro r h2 ⟨rfl, rfl⟩
  cases hr : rightB z
  · have e : chR T who p z = (1, T) := by simp [chR, hc, hr]
    rw [e]
    refine awpL_restE (by simp [go_sem]; exact ⟨rfl, rfl⟩) ?_; try dsimp only [thn, inBlk]
    (repeat' first
      | refine AWP.seq ?_
      | refine AWP.block ?_
      | (refine AWP.skip ?_; try dsimp only [thn, inBlk])
      | (refine AWP.exit ?_; try simp only [thn, inBlk, if_true, reduceIte, Nat.reduceEqDiff])
      | (refine AWP.ret ?_; try dsimp only [thn, inBlk])
      | (refine AWP.condT ?_ ?_; (focus (simp [go_sem]; done)))
      | (refine AWP.condF ?_ ?_; (focus (simp [go_sem]; done)))
      | (apply AWP.rE; (focus (simp [go_sem]; exact ⟨rfl, rfl⟩)); try dsimp only [thn, inBlk])
      | fail)
    simp [bodyQ, thn, inBlk, resA, resV, go_sem]
    exact kT
  have hz : z = (z.toNat : Int) := by simp [rightB] at hr; omega
  cases hg : get T p with
  | none =>
    have e : chR T who p z = (110, T) := by simp [chR, hc, hr, hg]
    rw [e, pv_none hg]
    refine awpL_restE (by simp [go_sem]; exact ⟨rfl, rfl⟩) ?_; try dsimp only [thn, inBlk]
    (repeat' first
      | refine AWP.seq ?_
      | refine AWP.block ?_
      | (refine AWP.skip ?_; try dsimp only [thn, inBlk])
      | (refine AWP.exit ?_; try simp only [thn, inBlk, if_true, reduceIte, Nat.reduceEqDiff])
      | (refine AWP.ret ?_; try dsimp only [thn, inBlk])
      | (refine AWP.condT ?_ ?_; (focus (simp [go_sem]; done)))
      | (refine AWP.condF ?_ ?_; (focus (simp [go_sem]; done)))
      | (apply AWP.rE; (focus (simp [go_sem]; exact ⟨rfl, rfl⟩)); try dsimp only [thn, inBlk])
      | fail)
    simp [bodyQ, thn, inBlk, resA, resV, go_sem]
    exact kT
  | some nd =>
    obtain ⟨j, w, t1, t2, t3, t4⟩ := pv_at hw hg
    have kn := node_open k1 t1 t2
    have ho : h2.obj w.1 = some (nrow (p, nd) w) := kn.obj
    have k7 := kn.set (nrow (p, { nd with mode := z.toNat }) w)
    rw [t3]
    refine awpL_restE (by simp [go_sem]; exact ⟨rfl, rfl⟩) ?_; try dsimp only [thn, inBlk]
    by_cases hroot : who = rootB
    · have hroot' : (who == [114, 111, 111, 116]) = true := by simpa [rootB] using hroot
      have e : chR T who p z = (0, T.set j (p, { nd with mode := z.toNat })) := by
        simp only [chR, hc, hr, hg, if_true, t4]; rw [if_neg (by simp), if_neg (fun e => e.1 hroot)]
      rw [e]
      rw [hz]
      generalize z.toNat = M at k7 ⊢
      (repeat' first
        | refine AWP.seq ?_
        | refine AWP.block ?_
        | (refine AWP.skip ?_; try dsimp only [thn, inBlk])
        | (refine AWP.exit ?_; try simp only [thn, inBlk, if_true, reduceIte, Nat.reduceEqDiff])
        | (refine AWP.ret ?_; try dsimp only [thn, inBlk])
        | (refine AWP.condT ?_ ?_; (focus (simp [go_sem, hroot', ho]; done)))
        | (refine AWP.condF ?_ ?_; (focus (simp [go_sem, hroot', ho]; done)))
        | (apply AWP.rE; (focus (simp [go_sem, hroot', ho]; exact ⟨rfl, rfl⟩)); try dsimp only [thn, inBlk])
        | fail)
      simp [bodyQ, thn, inBlk, resA, resV, go_sem]
      exact node_set (w' := w) hw t1 t2 rfl k7
    have hroot' : (who == [114, 111, 111, 116]) = false := by simpa [rootB] using hroot
    by_cases hown : who = nd.own
    · have hown' : (who == nd.own) = true := by simpa using hown
      have e : chR T who p z = (0, T.set j (p, { nd with mode := z.toNat })) := by
        simp only [chR, hc, hr, hg, if_true, t4]; rw [if_neg (by simp), if_neg (fun e => e.2 hown)]
      rw [e]
      rw [hz]
      generalize z.toNat = M at k7 ⊢
      (repeat' first
        | refine AWP.seq ?_
        | refine AWP.block ?_
        | (refine AWP.skip ?_; try dsimp only [thn, inBlk])
        | (refine AWP.exit ?_; try simp only [thn, inBlk, if_true, reduceIte, Nat.reduceEqDiff])
        | (refine AWP.ret ?_; try dsimp only [thn, inBlk])
        | (refine AWP.condT ?_ ?_; (focus (simp [go_sem, hroot', hown', ho]; done)))
        | (refine AWP.condF ?_ ?_; (focus (simp [go_sem, hroot', hown', ho]; done)))
        | (apply AWP.rE; (focus (simp [go_sem, hroot', hown', ho]; exact ⟨rfl, rfl⟩)); try dsimp only [thn, inBlk])
        | fail)
      simp [bodyQ, thn, inBlk, resA, resV, go_sem]
      exact node_set (w' := w) hw t1 t2 rfl k7
    · have hown' : (who == nd.own) = false := by simpa using hown
      have e : chR T who p z = (114, T) := by
        simp only [chR, hc, hr, hg, if_true, t4]; rw [if_neg (by simp), if_pos ⟨hroot, hown⟩]
      rw [e]
      (repeat' first
        | refine AWP.seq ?_
        | refine AWP.block ?_
        | (refine AWP.skip ?_; try dsimp only [thn, inBlk])
        | (refine AWP.exit ?_; try simp only [thn, inBlk, if_true, reduceIte, Nat.reduceEqDiff])
        | (refine AWP.ret ?_; try dsimp only [thn, inBlk])
        | (refine AWP.condT ?_ ?_; (focus (simp [go_sem, hroot', hown', ho]; done)))
        | (refine AWP.condF ?_ ?_; (focus (simp [go_sem, hroot', hown', ho]; done)))
        | (apply AWP.rE; (focus (simp [go_sem, hroot', hown', ho]; exact ⟨rfl, rfl⟩)); try dsimp only [thn, inBlk])
        | fail)
      simp [bodyQ, thn, inBlk, resA, resV, go_sem]
      exact kT
set_option maxHeartbeats 8000000 in
theorem give_calls {who p o : List UInt8} (hI : TK T) (k : Own O h (tr i T :: R)) (hp : p.length ≤ 900000) :
    ACalls Tryd.prog 20 #[ptr i, tx who, tx p, tx o] h fun r h' => r = .int .i64 (gvR T who p o).1 ∧ Own O h' (tr i (gvR T who p o).2 :: R) := by
  obtain ⟨m, ws, hw, k0⟩ := tr_iff.1 k
  refine ACalls.of_awp (args := [ptr i, tx who, tx p, tx o]) (n := 29) Tryd.func20 rfl rfl (by show 4 ≤ 29; omega) ?_
  (repeat' first
    | refine AWP.seq ?_
    | refine AWP.block ?_
    | (refine AWP.skip ?_; try dsimp only [thn, inBlk])
    | (refine AWP.exit ?_; try simp only [thn, inBlk, if_true, reduceIte, Nat.reduceEqDiff])
    | (refine AWP.ret ?_; try dsimp only [thn, inBlk])
    | (refine AWP.condT ?_ ?_; (focus (simp [go_sem]; done)))
    | (refine AWP.condF ?_ ?_; (focus (simp [go_sem]; done)))
    | (apply AWP.rE; (focus (simp [go_sem]; exact ⟨rfl, rfl⟩)); try dsimp only [thn, inBlk])
    | fail)
  refine AWP.callE (by simp [go_sem]; exact ⟨rfl, rfl, rfl, rfl, rfl⟩) (by kernel_rfl) ?_
  refine (find_calls (who := who) hI.toTI hw k0 hp).mono ?_
  rintro r h1 ⟨rfl, k1⟩
  have kT := tr_iff.2 ⟨m, ws, hw, k1⟩
  by_cases hc : findE T who p = 0
  rotate_left
  · have hc' : (findE T who p != 0) = true := by simpa using hc
    have e : gvR T who p o = (findE T who p, T) := by simp [gvR, hc]
    rw [e]
    generalize (if comeE T who p = 0 then pv T ws p else .pointer none) = PV
    refine awpL_restE (by simp [go_sem]; exact ⟨rfl, rfl⟩) ?_; try dsimp only [thn, inBlk]
    (repeat' first
      | refine AWP.seq ?_
      | refine AWP.block ?_
      | (refine AWP.skip ?_; try dsimp only [thn, inBlk])
      | (refine AWP.exit ?_; try simp only [thn, inBlk, if_true, reduceIte, Nat.reduceEqDiff])
      | (refine AWP.ret ?_; try dsimp only [thn, inBlk])
      | (refine AWP.condT ?_ ?_; (focus (simp [go_sem, hc']; done)))
      | (refine AWP.condF ?_ ?_; (focus (simp [go_sem, hc']; done)))
      | (apply AWP.rE; (focus (simp [go_sem, hc']; exact ⟨rfl, rfl⟩)); try dsimp only [thn, inBlk])
      | fail)
    simp [bodyQ, thn, inBlk, resA, resV, go_sem]
    exact kT
  have hc0 : comeE T who p = 0 := by
    by_cases h : comeE T who p = 0
    · exact h
    · unfold findE at hc; rw [if_neg h] at hc; exact absurd hc h
  obtain ⟨nd, hg⟩ : ∃ nd, get T p = some nd := by
    unfold findE at hc; rw [if_pos hc0] at hc
    cases hg : get T p with
    | none => rw [hg] at hc; cases hc
    | some nd => exact ⟨nd, rfl⟩
  obtain ⟨j, w, t1, t2, t3, t4⟩ := pv_at hw hg
  have kn := node_open k1 t1 t2
  have ho : h1.obj w.1 = some (nrow (p, nd) w) := kn.obj
  have k7 := kn.set (nrow (p, { nd with own := o }) w)
  rw [if_pos hc0, t3, hc]
  refine awpL_restE (by simp [go_sem]; exact ⟨rfl, rfl⟩) ?_; try dsimp only [thn, inBlk]
  by_cases hroot : who = rootB
  · have hroot' : (who == [114, 111, 111, 116]) = true := by simpa [rootB] using hroot
    have e : gvR T who p o = (0, T.set j (p, { nd with own := o })) := by
      simp only [gvR, hc, hg, if_true, t4]; rw [if_neg (fun e => e hroot)]
    rw [e]
    (repeat' first
      | refine AWP.seq ?_
      | refine AWP.block ?_
      | (refine AWP.skip ?_; try dsimp only [thn, inBlk])
      | (refine AWP.exit ?_; try simp only [thn, inBlk, if_true, reduceIte, Nat.reduceEqDiff])
      | (refine AWP.ret ?_; try dsimp only [thn, inBlk])
      | (refine AWP.condT ?_ ?_; (focus (simp [go_sem, hroot', ho]; done)))
      | (refine AWP.condF ?_ ?_; (focus (simp [go_sem, hroot', ho]; done)))
      | (apply AWP.rE; (focus (simp [go_sem, hroot', ho]; exact ⟨rfl, rfl⟩)); try dsimp only [thn, inBlk])
      | fail)
    simp [bodyQ, thn, inBlk, resA, resV, go_sem]
    exact node_set (w' := w) hw t1 t2 rfl k7
  · have hroot' : (who == [114, 111, 111, 116]) = false := by simpa [rootB] using hroot
    have e : gvR T who p o = (114, T) := by
      simp only [gvR, hc, hg, if_true]; rw [if_pos hroot]
    rw [e]
    (repeat' first
      | refine AWP.seq ?_
      | refine AWP.block ?_
      | (refine AWP.skip ?_; try dsimp only [thn, inBlk])
      | (refine AWP.exit ?_; try simp only [thn, inBlk, if_true, reduceIte, Nat.reduceEqDiff])
      | (refine AWP.ret ?_; try dsimp only [thn, inBlk])
      | (refine AWP.condT ?_ ?_; (focus (simp [go_sem, hroot', ho]; done)))
      | (refine AWP.condF ?_ ?_; (focus (simp [go_sem, hroot', ho]; done)))
      | (apply AWP.rE; (focus (simp [go_sem, hroot', ho]; exact ⟨rfl, rfl⟩)); try dsimp only [thn, inBlk])
      | fail)
    simp [bodyQ, thn, inBlk, resA, resV, go_sem]
    exact kT
end
end L19
