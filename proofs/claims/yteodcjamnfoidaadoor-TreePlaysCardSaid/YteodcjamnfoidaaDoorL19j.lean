import Derived.Test.YteodcjamnfoidaaDoorL19i
open Go Ab Go.Proofs
namespace L19
set_option autoImplicit false
set_option linter.unusedSimpArgs false
set_option linter.unusedVariables false

def setN (T : TL) (p : List UInt8) (n : Nd) : TL := match T.findIdx? (fun x => x.1 == p) with
  | some j => T.set j (p, n)
  | none => T
def wrR (T : TL) (who p d : List UInt8) (z : Int) : Int × TL :=
  if comeE T who p = 0 then
    if rightB z = false then (1, T) else if 1000 < d.length then (23, T) else match get T p with
      | none => (putE T p ⟨false, who, z.toNat, d⟩, putT T p ⟨false, who, z.toNat, d⟩)
      | some nd => if nd.dir = true then (113, T) else if may who nd 2 = false then (114, T) else (0, setN T p { nd with data := d })
  else (comeE T who p, T)
section
variable {O : Old} {h : AHeap} {R : List Chunk} {i m : Nat} {T : TL} {ws : List Wd}
theorem node_perm {j : Nat} {x : List UInt8 × Nd} {w : Wd} (hx : T[j]? = some x) (hwj : ws[j]? = some w) :
    (tro i m T ws ++ R).Perm (nsub x w :: ((nsubs T ws).eraseIdx j ++ (cell i (trow m) :: mch m T ws :: R))) := by
  have p1 : (tro i m T ws ++ R).Perm (nsubs T ws ++ (cell i (trow m) :: mch m T ws :: R)) := by
    show (cell i (trow m) :: mch m T ws :: (nsubs T ws ++ R)).Perm _
    refine (List.Perm.cons _ List.perm_middle.symm).trans ?_
    exact List.perm_middle.symm
  exact p1.trans ((perm_bring (nsubs_get hx hwj)).symm.append_right _)
theorem pv_at {p : List UInt8} {n : Nd} (hw : ws.length = T.length) (h : get T p = some n) : ∃ (j : Nat) (w : Wd), T[j]? = some (p, n) ∧ ws[j]? = some w ∧ pv T ws p = ptr w.1 ∧ ∀ n', setN T p n' = T.set j (p, n') := by
  obtain ⟨j, hj, hf⟩ := findIdx_get h
  obtain ⟨hlt, _⟩ := List.getElem?_eq_some_iff.1 hj
  have hw2 : ws[j]? = some (ws[j]'(by omega)) := List.getElem?_eq_getElem (by omega)
  exact ⟨j, _, hj, hw2, by simp only [pv, hf, hw2], fun n' => by simp only [setN, hf]⟩
/-- A node whose row is set. -/
theorem node_set {h' : AHeap} {j : Nat} {p : List UInt8} {n n' : Nd} {w w' : Wd} (hw : ws.length = T.length) (hx : T[j]? = some (p, n)) (hwj : ws[j]? = some w) (h2 : w'.1 = w.1)
    (k : Own O h' (cell w.1 (nrow (p, n') w') :: ob 5 (.slice w'.2.1 n'.data.length w'.2.2) n'.data :: ((nsubs T ws).eraseIdx j ++ (cell i (trow m) :: mch m T ws :: R)))) :
    Own O h' (tr i (T.set j (p, n')) :: R) :=
  tr_iff.2 ⟨m, ws.set j w', by simp [hw], node_close (x' := (p, n')) hx hwj rfl h2 (by rw [h2]; exact k)⟩

set_option maxHeartbeats 8000000 in
theorem write_calls {who p d : List UInt8} {v : Value} {z : Int} (hI : TK T) (k : Own O h (tr i T :: R)) (hx : ∀ h, Own O h R → Bytes h v d) (hp : p.length ≤ 900000) (hd : d.length ≤ 1000000) :
    ACalls Tryd.prog 12 #[ptr i, tx who, tx p, v, .int .i64 z] h fun r h' => r = .int .i64 (wrR T who p d z).1 ∧ Own O h' (tr i (wrR T who p d z).2 :: R) := by
  obtain ⟨va, vc, rfl⟩ := (hx h k.tail).val
  obtain ⟨m, ws, hw, k0⟩ := tr_iff.1 k
  refine ACalls.of_awp (args := [ptr i, tx who, tx p, .slice va d.length vc, .int .i64 z]) (n := 58) Tryd.func12 rfl rfl (by show 5 ≤ 58; omega) ?_
  (repeat' first
    | refine AWP.seq ?_
    | refine AWP.block ?_
    | (refine AWP.skip ?_; try dsimp only [thn, inBlk])
    | (refine AWP.exit ?_; try simp only [thn, inBlk, if_true, reduceIte, Nat.reduceEqDiff])
    | (refine AWP.ret ?_; try dsimp only [thn, inBlk])
    | (refine AWP.condT ?_ ?_; (focus (simp [go_sem]; done)))
    | (refine AWP.condF ?_ ?_; (focus (simp [go_sem]; done)))
    | (apply AWP.rE; (focus (simp [go_sem]; exact ⟨rfl, rfl⟩)); try dsimp only [thn, inBlk])
    | fail)
  refine AWP.callE (by simp [go_sem]; exact ⟨rfl, rfl, rfl, rfl, rfl⟩) (by kernel_rfl) ?_
  refine (come_calls (who := who) hI.toTI hw k0 hp).mono ?_
  rintro r h1 ⟨rfl, k1⟩
  have kT := tr_iff.2 ⟨m, ws, hw, k1⟩
  by_cases hc : comeE T who p = 0
  rotate_left
  · have hc' : (comeE T who p != 0) = true := by simpa using hc
    have e : wrR T who p d z = (comeE T who p, T) := by simp [wrR, hc]
    rw [if_neg hc, e]
    refine awpL_restE (by simp [go_sem]; exact ⟨rfl, rfl⟩) ?_; try dsimp only [thn, inBlk]
    (repeat' first
      | refine AWP.seq ?_
      | refine AWP.block ?_
      | (refine AWP.skip ?_; try dsimp only [thn, inBlk])
      | (refine AWP.exit ?_; try simp only [thn, inBlk, if_true, reduceIte, Nat.reduceEqDiff])
      | (refine AWP.ret ?_; try dsimp only [thn, inBlk])
      | (refine AWP.condT ?_ ?_; (focus (simp [go_sem, hc']; done)))
      | (refine AWP.condF ?_ ?_; (focus (simp [go_sem, hc']; done)))
      | (apply AWP.rE; (focus (simp [go_sem, hc']; exact ⟨rfl, rfl⟩)); try dsimp only [thn, inBlk])
      | fail)
    simp [bodyQ, thn, inBlk, resA, resV, go_sem]
    exact kT
  rw [if_pos hc, hc]
  refine awpL_restE (by simp [go_sem]; exact ⟨rfl, rfl⟩) ?_; try dsimp only [thn, inBlk]
  (repeat' first
    | refine AWP.seq ?_
    | refine AWP.block ?_
    | (refine AWP.skip ?_; try dsimp only [thn, inBlk])
    | (refine AWP.exit ?_; try simp only [thn, inBlk, if_true, reduceIte, Nat.reduceEqDiff])
    | (refine AWP.ret ?_; try dsimp only [thn, inBlk])
    | (refine AWP.condT ?_ ?_; (focus (simp [go_sem]; done)))
    | (refine AWP.condF ?_ ?_; (focus (simp [go_sem]; done)))
    | (apply AWP.rE; (focus (simp [go_sem]; exact ⟨rfl, rfl⟩)); try dsimp only [thn, inBlk])
    | fail)
  refine AWP.callE (by simp [go_sem]; exact ⟨rfl, rfl, rfl, rfl, rfl⟩) (by kernel_rfl) ?_
  refine (right_calls (z := z)).mono ?_
  rintro r h2 ⟨rfl, rfl⟩
  cases hr : rightB z
  · have e : wrR T who p d z = (1, T) := by simp [wrR, hc, hr]
    rw [e]
    refine awpL_restE (by simp [go_sem]; exact ⟨rfl, rfl⟩) ?_; try dsimp only [thn, inBlk]
    (repeat' first
      | refine AWP.seq ?_
      | refine AWP.block ?_
      | (refine AWP.skip ?_; try dsimp only [thn, inBlk])
      | (refine AWP.exit ?_; try simp only [thn, inBlk, if_true, reduceIte, Nat.reduceEqDiff])
      | (refine AWP.ret ?_; try dsimp only [thn, inBlk])
      | (refine AWP.condT ?_ ?_; (focus (simp [go_sem]; done)))
      | (refine AWP.condF ?_ ?_; (focus (simp [go_sem]; done)))
      | (apply AWP.rE; (focus (simp [go_sem]; exact ⟨rfl, rfl⟩)); try dsimp only [thn, inBlk])
      | fail)
    simp [bodyQ, thn, inBlk, resA, resV, go_sem]
    exact kT
  refine awpL_restE (by simp [go_sem]; exact ⟨rfl, rfl⟩) ?_; try dsimp only [thn, inBlk]
  by_cases hl : 1000 < d.length
  · have hl' : (1000 : Int) < d.length := by omega
    have e : wrR T who p d z = (23, T) := by simp [wrR, hc, hr, hl]
    rw [e]
    (repeat' first
      | refine AWP.seq ?_
      | refine AWP.block ?_
      | (refine AWP.skip ?_; try dsimp only [thn, inBlk])
      | (refine AWP.exit ?_; try simp only [thn, inBlk, if_true, reduceIte, Nat.reduceEqDiff])
      | (refine AWP.ret ?_; try dsimp only [thn, inBlk])
      | (refine AWP.condT ?_ ?_; (focus (simp [go_sem, hl']; done)))
      | (refine AWP.condF ?_ ?_; (focus (simp [go_sem, hl']; done)))
      | (apply AWP.rE; (focus (simp [go_sem, hl']; exact ⟨rfl, rfl⟩)); try dsimp only [thn, inBlk])
      | fail)
    simp [bodyQ, thn, inBlk, resA, resV, go_sem]
    exact kT
  have hl' : ¬ (1000 : Int) < d.length := by omega
  have hz : z = (z.toNat : Int) := by simp [rightB] at hr; omega
  obtain ⟨M, hM⟩ : ∃ M, M = z.toNat := ⟨_, rfl⟩
  cases hg : get T p with
  | none =>
    have e : wrR T who p d z = (putE T p ⟨false, who, M, d⟩, putT T p ⟨false, who, M, d⟩) := by
      simp only [wrR, hc, hr, hg, hM, if_true, if_neg hl]; simp
    obtain ⟨nd, hpar⟩ := hI.parent hc
    have hmx := hI.mx
    rw [e, pv_none hg]
    rw [← hM] at hz
    rw [hz]
    (repeat' first
      | refine AWP.seq ?_
      | refine AWP.block ?_
      | (refine AWP.skip ?_; try dsimp only [thn, inBlk])
      | (refine AWP.exit ?_; try simp only [thn, inBlk, if_true, reduceIte, Nat.reduceEqDiff])
      | (refine AWP.ret ?_; try dsimp only [thn, inBlk])
      | (refine AWP.condT ?_ ?_; (focus (simp [go_sem, hl']; done)))
      | (refine AWP.condF ?_ ?_; (focus (simp [go_sem, hl']; done)))
      | (apply AWP.rE; (focus (simp [go_sem, hl']; exact ⟨rfl, rfl⟩)); try dsimp only [thn, inBlk])
      | fail)
    refine AWP.callE (by simp [go_sem]; exact ⟨rfl, rfl, rfl, rfl, rfl⟩) (by kernel_rfl) ?_
    refine (clone_calls k1 (fun hh kk => hx hh kk.rest) (by omega)).mono ?_
    rintro r h3 ⟨a9, c9, rfl, k3⟩
    refine awpL_toCall (by simp [go_sem]; exact ⟨rfl, rfl, rfl, rfl, rfl⟩) (by kernel_rfl) ?_
    refine (put_calls (n := ⟨false, who, M, d⟩) (a := a9) (cap := c9) hI.toTI hw (k3.perm List.perm_middle.symm) hp hg hpar (by omega)).mono ?_
    rintro r h4 ⟨rfl, k4⟩
    refine awpL_restE (by simp [go_sem]; exact ⟨rfl, rfl⟩) ?_; try dsimp only [thn, inBlk]
    (repeat' first
      | refine AWP.seq ?_
      | refine AWP.block ?_
      | (refine AWP.skip ?_; try dsimp only [thn, inBlk])
      | (refine AWP.exit ?_; try simp only [thn, inBlk, if_true, reduceIte, Nat.reduceEqDiff])
      | (refine AWP.ret ?_; try dsimp only [thn, inBlk])
      | (refine AWP.condT ?_ ?_; (focus (simp [go_sem]; done)))
      | (refine AWP.condF ?_ ?_; (focus (simp [go_sem]; done)))
      | (apply AWP.rE; (focus (simp [go_sem]; exact ⟨rfl, rfl⟩)); try dsimp only [thn, inBlk])
      | fail)
    simp [bodyQ, thn, inBlk, resA, resV, go_sem]
    exact k4
  | some nd =>
    obtain ⟨j, w, t1, t2, t3, t4⟩ := pv_at hw hg
    have ho : h2.obj w.1 = some (nrow (p, nd) w) := (node_open k1 t1 t2).obj
    have hmd := hI.md _ (List.mem_of_getElem? t1)
    rw [t3]
    cases hdr : nd.dir
    rotate_left
    · have e : wrR T who p d z = (113, T) := by simp only [wrR, hc, hr, hg, hdr, if_true, if_neg hl]; simp
      rw [e]
      (repeat' first
        | refine AWP.seq ?_
        | refine AWP.block ?_
        | (refine AWP.skip ?_; try dsimp only [thn, inBlk])
        | (refine AWP.exit ?_; try simp only [thn, inBlk, if_true, reduceIte, Nat.reduceEqDiff])
        | (refine AWP.ret ?_; try dsimp only [thn, inBlk])
        | (refine AWP.condT ?_ ?_; (focus (simp [go_sem, hl', ho, hdr]; done)))
        | (refine AWP.condF ?_ ?_; (focus (simp [go_sem, hl', ho, hdr]; done)))
        | (apply AWP.rE; (focus (simp [go_sem, hl', ho, hdr]; exact ⟨rfl, rfl⟩)); try dsimp only [thn, inBlk])
        | fail)
      simp [bodyQ, thn, inBlk, resA, resV, go_sem]
      exact kT
    (repeat' first
      | refine AWP.seq ?_
      | refine AWP.block ?_
      | (refine AWP.skip ?_; try dsimp only [thn, inBlk])
      | (refine AWP.exit ?_; try simp only [thn, inBlk, if_true, reduceIte, Nat.reduceEqDiff])
      | (refine AWP.ret ?_; try dsimp only [thn, inBlk])
      | (refine AWP.condT ?_ ?_; (focus (simp [go_sem, hl', ho, hdr]; done)))
      | (refine AWP.condF ?_ ?_; (focus (simp [go_sem, hl', ho, hdr]; done)))
      | (apply AWP.rE; (focus (simp [go_sem, hl', ho, hdr]; exact ⟨rfl, rfl⟩)); try dsimp only [thn, inBlk])
      | fail)
    refine AWP.callE (by simp [go_sem]; exact ⟨rfl, rfl, rfl, rfl, rfl⟩) (by kernel_rfl) ?_
    refine (may_calls (who := who) (bit := 2) ho hmd (by omega)).mono ?_
    rintro r h3 ⟨rfl, rfl⟩
    cases hmy : may who nd 2
    · have e : wrR T who p d z = (114, T) := by simp only [wrR, hc, hr, hg, hdr, hmy, if_true, if_neg hl]; simp
      rw [e]
      refine awpL_restE (by simp [go_sem]; exact ⟨rfl, rfl⟩) ?_; try dsimp only [thn, inBlk]
      (repeat' first
        | refine AWP.seq ?_
        | refine AWP.block ?_
        | (refine AWP.skip ?_; try dsimp only [thn, inBlk])
        | (refine AWP.exit ?_; try simp only [thn, inBlk, if_true, reduceIte, Nat.reduceEqDiff])
        | (refine AWP.ret ?_; try dsimp only [thn, inBlk])
        | (refine AWP.condT ?_ ?_; (focus (simp [go_sem]; done)))
        | (refine AWP.condF ?_ ?_; (focus (simp [go_sem]; done)))
        | (apply AWP.rE; (focus (simp [go_sem]; exact ⟨rfl, rfl⟩)); try dsimp only [thn, inBlk])
        | fail)
      simp [bodyQ, thn, inBlk, resA, resV, go_sem]
      exact kT
    have e : wrR T who p d z = (0, T.set j (p, { nd with data := d })) := by simp only [wrR, hc, hr, hg, hdr, hmy, if_true, if_neg hl, t4]; simp
    rw [e]
    refine awpL_restE (by simp [go_sem]; exact ⟨rfl, rfl⟩) ?_; try dsimp only [thn, inBlk]
    (repeat' first
      | refine AWP.seq ?_
      | refine AWP.block ?_
      | (refine AWP.skip ?_; try dsimp only [thn, inBlk])
      | (refine AWP.exit ?_; try simp only [thn, inBlk, if_true, reduceIte, Nat.reduceEqDiff])
      | (refine AWP.ret ?_; try dsimp only [thn, inBlk])
      | (refine AWP.condT ?_ ?_; (focus (simp [go_sem]; done)))
      | (refine AWP.condF ?_ ?_; (focus (simp [go_sem]; done)))
      | (apply AWP.rE; (focus (simp [go_sem]; exact ⟨rfl, rfl⟩)); try dsimp only [thn, inBlk])
      | fail)
    refine AWP.callE (by simp [go_sem]; exact ⟨rfl, rfl, rfl, rfl, rfl⟩) (by kernel_rfl) ?_
    refine (clone_calls k1 (fun hh kk => hx hh kk.rest) (by omega)).mono ?_
    rintro r h4 ⟨a9, c9, rfl, k4⟩
    have k5 := Own.star_iff.1 ((k4.perm (List.Perm.cons _ (node_perm t1 t2))).b1)
    have k6 : Own O h4 (cell w.1 (nrow (p, nd) w) :: ob 5 (.slice a9 d.length c9) d :: _) := Own.d1 k5
    have c6 := k6.obj
    have k7 := k6.set (nrow (p, { nd with data := d }) (w.1, a9, c9))
    refine awpL_restE (by simp [go_sem, c6]; exact ⟨rfl, rfl⟩) ?_; try dsimp only [thn, inBlk]
    (repeat' first
      | refine AWP.seq ?_
      | refine AWP.block ?_
      | (refine AWP.skip ?_; try dsimp only [thn, inBlk])
      | (refine AWP.exit ?_; try simp only [thn, inBlk, if_true, reduceIte, Nat.reduceEqDiff])
      | (refine AWP.ret ?_; try dsimp only [thn, inBlk])
      | (refine AWP.condT ?_ ?_; (focus (simp [go_sem]; done)))
      | (refine AWP.condF ?_ ?_; (focus (simp [go_sem]; done)))
      | (apply AWP.rE; (focus (simp [go_sem]; exact ⟨rfl, rfl⟩)); try dsimp only [thn, inBlk])
      | fail)
    simp [bodyQ, thn, inBlk, resA, resV, go_sem]
    exact node_set (w' := (w.1, a9, c9)) hw t1 t2 rfl k7
end
end L19
