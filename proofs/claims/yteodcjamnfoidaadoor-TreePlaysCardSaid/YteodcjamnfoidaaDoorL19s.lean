import Derived.Test.YteodcjamnfoidaaDoorL19r
open Go Ab Go.Proofs
namespace L19
set_option autoImplicit false
set_option linter.unusedSimpArgs false
set_option linter.unusedVariables false

/-! ### Remove -/
def rmT (T : TL) (p : List UInt8) : TL := match T.findIdx? (fun x => x.1 == p) with
  | some j => T.eraseIdx j
  | none => T
def rmR (T : TL) (who p : List UInt8) : Int × TL :=
  if comeE T who p = 0 then
    if p = [47] then (1, T) else match get T p with
      | none => (110, T)
      | some _ => match get T (par p) with
        | none => (110, T)
        | some nd => if may who nd 2 = false then (114, T) else if kids T p = [] then (0, rmT T p) else (115, T)
  else (comeE T who p, T)
theorem zw_erase {α β γ : Type} (f : α → β → γ) : ∀ (l : List α) (m : List β) (j : Nat), (List.zipWith f l m).eraseIdx j = List.zipWith f (l.eraseIdx j) (m.eraseIdx j)
  | [], m, j => by simp
  | x :: l, [], j => by simp
  | x :: l, y :: m, 0 => by simp
  | x :: l, y :: m, j + 1 => by simp [zw_erase f l m j]
open Classical in
theorem filter_eraseIdx {K V : Type} {x : K} : ∀ {l : List (K × V)} {j : Nat} {v : V}, (l.map (·.1)).Nodup → l[j]? = some (x, v) → (l.filter fun q => !decide (q.1 = x)) = l.eraseIdx j
  | [], j, v, _, h => by simp at h
  | y :: l, 0, v, hn, h => by
    simp at h; subst h
    simp only [List.map_cons, List.nodup_cons] at hn
    have : (l.filter fun q => !decide (q.1 = x)) = l := by
      rw [List.filter_eq_self]
      intro q hq
      have : q.1 ≠ x := fun e => hn.1 (by rw [← e]; exact List.mem_map_of_mem hq)
      simp [this]
    simp [List.filter_cons, this]
  | y :: l, j + 1, v, hn, h => by
    simp only [List.map_cons, List.nodup_cons] at hn
    simp only [List.getElem?_cons_succ] at h
    have hy : y.1 ≠ x := fun e => hn.1 (by rw [e]; exact List.mem_map.2 ⟨_, List.mem_of_getElem? h, rfl⟩)
    rw [List.filter_cons, if_pos (by simp [hy]), filter_eraseIdx hn.2 h]
    rfl
section
variable {O : Old} {h : AHeap} {R : List Chunk} {i m : Nat} {T : TL} {ws : List Wd}
set_option maxHeartbeats 8000000 in
theorem remove_calls {who p : List UInt8} (hI : TK T) (k : Own O h (tr i T :: R)) (hp : p.length ≤ 900000) :
    ACalls Tryd.prog 16 #[ptr i, tx who, tx p] h fun r h' => r = .int .i64 (rmR T who p).1 ∧ Own O h' (tr i (rmR T who p).2 :: R) := by
  obtain ⟨m, ws, hw, k0⟩ := tr_iff.1 k
  refine ACalls.of_awp (args := [ptr i, tx who, tx p]) (n := 48) Tryd.func16 rfl rfl (by show 3 ≤ 48; omega) ?_
  (repeat' first
    | refine AWP.seq ?_
    | refine AWP.block ?_
    | (refine AWP.skip ?_; try dsimp only [thn, inBlk])
    | (refine AWP.exit ?_; try simp only [thn, inBlk, if_true, reduceIte, Nat.reduceEqDiff])
    | (refine AWP.ret ?_; try dsimp only [thn, inBlk])
    | (refine AWP.condT ?_ ?_; (focus (simp [go_sem]; done)))
    | (refine AWP.condF ?_ ?_; (focus (simp [go_sem]; done)))
    | (apply AWP.rE; (focus (simp [go_sem]; exact ⟨rfl, rfl⟩)); try dsimp only [thn, inBlk])
    | fail)
  refine AWP.callE (by simp [go_sem]; exact ⟨rfl, rfl, rfl, rfl, rfl⟩) (by kernel_rfl) ?_
  refine (come_calls (who := who) hI.toTI hw k0 hp).mono ?_
  rintro r h1 ⟨rfl, k1⟩
  have kT := tr_iff.2 ⟨m, ws, hw, k1⟩
  by_cases hc : comeE T who p = 0
  rotate_left
  · have hc' : (comeE T who p != 0) = true := by simpa using hc
    have e : rmR T who p = (comeE T who p, T) := by simp [rmR, hc]
    rw [if_neg hc, e]
    refine awpL_restE (by simp [go_sem]; exact ⟨rfl, rfl⟩) ?_; try dsimp only [thn, inBlk]
    (repeat' first
      | refine AWP.seq ?_
      | refine AWP.block ?_
      | (refine AWP.skip ?_; try dsimp only [thn, inBlk])
      | (refine AWP.exit ?_; try simp only [thn, inBlk, if_true, reduceIte, Nat.reduceEqDiff])
      | (refine AWP.ret ?_; try dsimp only [thn, inBlk])
      | (refine AWP.condT ?_ ?_; (focus (simp [go_sem, hc']; done)))
      | (refine AWP.condF ?_ ?_; (focus (simp [go_sem, hc']; done)))
      | (apply AWP.rE; (focus (simp [go_sem, hc']; exact ⟨rfl, rfl⟩)); try dsimp only [thn, inBlk])
      | fail)
    simp [bodyQ, thn, inBlk, resA, resV, go_sem]
    exact kT
  rw [if_pos hc, hc]
  refine awpL_restE (by simp [go_sem]; exact ⟨rfl, rfl⟩) ?_; try dsimp only [thn, inBlk]
  by_cases hp1 : p = [47]
  · have hp1' : (p == [47]) = true := by simpa using hp1
    have e : rmR T who p = (1, T) := by simp [rmR, hc, hp1] at hc ⊢; simp [hc]
    rw [e]
    (repeat' first
      | refine AWP.seq ?_
      | refine AWP.block ?_
      | (refine AWP.skip ?_; try dsimp only [thn, inBlk])
      | (refine AWP.exit ?_; try simp only [thn, inBlk, if_true, reduceIte, Nat.reduceEqDiff])
      | (refine AWP.ret ?_; try dsimp only [thn, inBlk])
      | (refine AWP.condT ?_ ?_; (focus (simp [go_sem, hp1']; done)))
      | (refine AWP.condF ?_ ?_; (focus (simp [go_sem, hp1']; done)))
      | (apply AWP.rE; (focus (simp [go_sem, hp1']; exact ⟨rfl, rfl⟩)); try dsimp only [thn, inBlk])
      | fail)
    simp [bodyQ, thn, inBlk, resA, resV, go_sem]
    exact kT
  have hp1' : (p == [47]) = false := by simpa using hp1
  cases hg : get T p with
  | none =>
    have e : rmR T who p = (110, T) := by simp [rmR, hc, hp1, hg]
    rw [e, pv_none hg]
    (repeat' first
      | refine AWP.seq ?_
      | refine AWP.block ?_
      | (refine AWP.skip ?_; try dsimp only [thn, inBlk])
      | (refine AWP.exit ?_; try simp only [thn, inBlk, if_true, reduceIte, Nat.reduceEqDiff])
      | (refine AWP.ret ?_; try dsimp only [thn, inBlk])
      | (refine AWP.condT ?_ ?_; (focus (simp [go_sem, hp1']; done)))
      | (refine AWP.condF ?_ ?_; (focus (simp [go_sem, hp1']; done)))
      | (apply AWP.rE; (focus (simp [go_sem, hp1']; exact ⟨rfl, rfl⟩)); try dsimp only [thn, inBlk])
      | fail)
    simp [bodyQ, thn, inBlk, resA, resV, go_sem]
    exact kT
  | some n0 =>
    obtain ⟨j, w, t1, t2, t3, t4⟩ := pv_at hw hg
    obtain ⟨nd, hpar⟩ := hI.parent hc
    obtain ⟨j2, w2, u1, u2, u3⟩ := pv_some hw hpar
    have hlk := tlook hI.toTI hw k1 (p := par p) (by
      unfold par; split
      · simp; omega
      · simp)
    rw [u3] at hlk
    have ci : h1.obj i = some (trow m) := k1.obj
    have ho : h1.obj w2.1 = some (nrow (par p, nd) w2) := (node_open k1 u1 u2).obj
    have hmd := hI.md _ (List.mem_of_getElem? u1)
    rw [t3]
    (repeat' first
      | refine AWP.seq ?_
      | refine AWP.block ?_
      | (refine AWP.skip ?_; try dsimp only [thn, inBlk])
      | (refine AWP.exit ?_; try simp only [thn, inBlk, if_true, reduceIte, Nat.reduceEqDiff])
      | (refine AWP.ret ?_; try dsimp only [thn, inBlk])
      | (refine AWP.condT ?_ ?_; (focus (simp [go_sem, hp1']; done)))
      | (refine AWP.condF ?_ ?_; (focus (simp [go_sem, hp1']; done)))
      | (apply AWP.rE; (focus (simp [go_sem, hp1']; exact ⟨rfl, rfl⟩)); try dsimp only [thn, inBlk])
      | fail)
    refine AWP.draw hmix [.n 0 [1], .n 1 [0], .n 2 [28], .n 3 [29], .n 4 [30], .n 5 [2], .w 6 [32] [4], .n 7 [31, 33], .w 8 [27, 34] [], .n 9 [35], .n 10 [36]] (by kernel_rfl) ?_
    refine awpD_callR 6 (by rfl) (by rfl) (by simp [go_sem, ci]; exact ⟨rfl, rfl, rfl⟩) (by rfl) (by rfl) (by simp [go_sem]) (by simp [go_sem, ci]; exact ⟨rfl, rfl⟩) (by kernel_rfl) ?_
    refine (parent_calls (l := p) (by omega)).mono ?_
    rintro r h2 ⟨rfl, rfl⟩
    refine ⟨by simp [still, go_sem, ci], ?_⟩
    refine awpD_callR 1 (by rfl) (by rfl) (by simp [go_sem, ci, hlk]; exact ⟨rfl, rfl, rfl⟩) (by rfl) (by rfl) (by simp [go_sem]) (by simp [go_sem, ci, hlk]; exact ⟨rfl, rfl⟩) (by kernel_rfl) ?_
    refine (may_calls (who := who) (bit := 2) ho hmd (by omega)).mono ?_
    rintro r h3 ⟨rfl, rfl⟩
    refine ⟨by simp [still, go_sem, ci, hlk], ?_⟩
    cases hmy : may who nd 2
    · have e : rmR T who p = (114, T) := by simp [rmR, hc, hp1, hg, hpar, hmy]
      rw [e]
      refine awpD_restR (by rfl) (by simp [go_sem]; exact ⟨rfl, rfl, rfl⟩) ?_; try dsimp only [thn, inBlk]
      (repeat' first
        | refine AWP.seq ?_
        | refine AWP.block ?_
        | (refine AWP.skip ?_; try dsimp only [thn, inBlk])
        | (refine AWP.exit ?_; try simp only [thn, inBlk, if_true, reduceIte, Nat.reduceEqDiff])
        | (refine AWP.ret ?_; try dsimp only [thn, inBlk])
        | (refine AWP.condT ?_ ?_; (focus (simp [go_sem]; done)))
        | (refine AWP.condF ?_ ?_; (focus (simp [go_sem]; done)))
        | (apply AWP.rE; (focus (simp [go_sem]; exact ⟨rfl, rfl⟩)); try dsimp only [thn, inBlk])
        | fail)
      simp [bodyQ, thn, inBlk, resA, resV, go_sem]
      exact kT
    refine awpD_restR (by rfl) (by simp [go_sem]; exact ⟨rfl, rfl, rfl⟩) ?_; try dsimp only [thn, inBlk]
    (repeat' first
      | refine AWP.seq ?_
      | refine AWP.block ?_
      | (refine AWP.skip ?_; try dsimp only [thn, inBlk])
      | (refine AWP.exit ?_; try simp only [thn, inBlk, if_true, reduceIte, Nat.reduceEqDiff])
      | (refine AWP.ret ?_; try dsimp only [thn, inBlk])
      | (refine AWP.condT ?_ ?_; (focus (simp [go_sem]; done)))
      | (refine AWP.condF ?_ ?_; (focus (simp [go_sem]; done)))
      | (apply AWP.rE; (focus (simp [go_sem]; exact ⟨rfl, rfl⟩)); try dsimp only [thn, inBlk])
      | fail)
    refine AWP.callE (by simp [go_sem]; exact ⟨rfl, rfl, rfl, rfl, rfl⟩) (by kernel_rfl) ?_
    have hmx := hI.mx
    refine (names_calls (q := p) hI.toTI hw k1 (by omega)).mono ?_
    rintro r h4 ⟨a4, c4, rfl, k4⟩
    have k5 := k4.tail
    have ci4 : h4.obj i = some (trow m) := k5.obj
    by_cases hk0 : kids T p = []
    rotate_left
    · have hk1 : 0 < (kids T p).length := List.length_pos_iff.2 hk0
      have e : rmR T who p = (115, T) := by simp [rmR, hc, hp1, hg, hpar, hmy, hk0]
      rw [e]
      refine awpL_restE (by simp [go_sem]; exact ⟨rfl, rfl⟩) ?_; try dsimp only [thn, inBlk]
      (repeat' first
        | refine AWP.seq ?_
        | refine AWP.block ?_
        | (refine AWP.skip ?_; try dsimp only [thn, inBlk])
        | (refine AWP.exit ?_; try simp only [thn, inBlk, if_true, reduceIte, Nat.reduceEqDiff])
        | (refine AWP.ret ?_; try dsimp only [thn, inBlk])
        | (refine AWP.condT ?_ ?_; (focus (simp [go_sem, hk1]; done)))
        | (refine AWP.condF ?_ ?_; (focus (simp [go_sem, hk1]; done)))
        | (apply AWP.rE; (focus (simp [go_sem, hk1]; exact ⟨rfl, rfl⟩)); try dsimp only [thn, inBlk])
        | fail)
      simp [bodyQ, thn, inBlk, resA, resV, go_sem]
      exact tr_iff.2 ⟨m, ws, hw, k5⟩
    have e : rmR T who p = (0, T.eraseIdx j) := by
      have e2 : rmT T p = T.eraseIdx j := by
        obtain ⟨j', q1, q2⟩ := findIdx_get hg
        have : j' = j := by
          have hn := hI.nd
          obtain ⟨l1, _⟩ := List.getElem?_eq_some_iff.1 q1
          obtain ⟨l2, _⟩ := List.getElem?_eq_some_iff.1 t1
          exact (List.getElem?_inj (l := T.map (·.1)) (by rw [List.length_map]; exact l1) hn).1 (by rw [List.getElem?_map, List.getElem?_map, q1, t1])
        simp only [rmT, q2, this]
      simp [rmR, hc, hp1, hg, hpar, hmy, hk0, e2]
    rw [e, hk0]
    have km : Own O h4 (mch m T ws :: cell i (trow m) :: (nsubs T ws ++ R)) := (show Own O h4 (cell i (trow m) :: mch m T ws :: (nsubs T ws ++ R)) from k5).b1
    obtain ⟨h9, e9, n9, k9⟩ := km.map_del txEnc Tryd.underlying60 (x := p) (by omega) (ptrs_good hI.toTI hw) (by rw [ptrs_keys hw]; exact hI.nd)
    rw [filter_eraseIdx (x := p) (v := w.1) (by rw [ptrs_keys hw]; exact hI.nd) (ptrs_get t1 t2)] at k9
    refine awpL_restE (by simp [go_sem]; exact ⟨rfl, rfl⟩) ?_; try dsimp only [thn, inBlk]
    (repeat' first
      | refine AWP.seq ?_
      | refine AWP.block ?_
      | (refine AWP.skip ?_; try dsimp only [thn, inBlk])
      | (refine AWP.exit ?_; try simp only [thn, inBlk, if_true, reduceIte, Nat.reduceEqDiff])
      | (refine AWP.ret ?_; try dsimp only [thn, inBlk])
      | (refine AWP.condT ?_ ?_; (focus (simp [go_sem, ci4, e9]; done)))
      | (refine AWP.condF ?_ ?_; (focus (simp [go_sem, ci4, e9]; done)))
      | (apply AWP.rE; (focus (simp [go_sem, ci4, e9]; exact ⟨rfl, rfl⟩)); try dsimp only [thn, inBlk])
      | fail)
    simp [bodyQ, thn, inBlk, resA, resV, go_sem]
    obtain ⟨l1, _⟩ := List.getElem?_eq_some_iff.1 t1
    refine tr_iff.2 ⟨m, ws.eraseIdx j, by rw [List.length_eraseIdx, List.length_eraseIdx, if_pos (by omega), if_pos l1, hw], ?_⟩
    have q1 : ptrs (T.eraseIdx j) (ws.eraseIdx j) = (ptrs T ws).eraseIdx j := (zw_erase _ _ _ _).symm
    have q2 : nsubs (T.eraseIdx j) (ws.eraseIdx j) = (nsubs T ws).eraseIdx j := (zw_erase _ _ _ _).symm
    show Own O h9 (cell i (trow m) :: mpc tx ptr m _ :: (_ ++ R))
    rw [q1, q2]
    have kA : Own O h9 (nsub (p, n0) w :: mpc tx ptr m ((ptrs T ws).eraseIdx j) :: cell i (trow m) :: ((nsubs T ws).eraseIdx j ++ R)) := by
      have pp := (perm_bring (nsubs_get t1 t2)).symm.append_right R
      exact (k9.perm (List.Perm.cons _ (List.Perm.cons _ pp))).b2
    exact kA.tail.b1
end
end L19
