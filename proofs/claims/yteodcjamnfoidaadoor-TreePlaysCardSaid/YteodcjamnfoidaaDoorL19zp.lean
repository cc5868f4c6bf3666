import Derived.Test.YteodcjamnfoidaaDoorL19zo
open Go Ab Go.Proofs
namespace L19
set_option autoImplicit false
set_option linter.unusedSimpArgs false
set_option linter.unusedVariables false
section
variable {O : Old} {h : AHeap} {R : List Chunk} {i : Nat} {xs : TL} {zs : List NZ}
theorem nz_piece {v : Value} (k : Own O h (nzs v zs :: R)) {lo hi : Nat} (h1 : lo ≤ hi) (h2 : hi ≤ zs.length)
    {l u : Option Value} (hl : (l = none ∧ lo = 0) ∨ ∃ kd, l = some (.int kd lo)) (hu : (u = none ∧ hi = zs.length) ∨ ∃ kd, u = some (.int kd hi)) :
    sliceR Tryd.prog h 40 v l u none = some (sliceV 5 lo hi v) ∧ srcCells h 5 (sliceV 5 lo hi v) = some (hi - lo, (((zs.drop lo).take (hi - lo)).map nz).flatten) := by
  obtain ⟨s1, s2⟩ := k.os_sl.piece Tryd.underlying40 tsz43 h1 h2 hl hu
  refine ⟨s1, ?_⟩
  rw [s2.src, flat_piece lo (hi - lo) nz_all (by rw [List.length_map]; omega)]
  simp only [List.map_drop, List.map_take]
set_option maxHeartbeats 16000000 in
theorem rremove_calls {who p : List UInt8} (hX : RX xs) (hP : ∀ x ∈ xs, pathB x.1 = true ∧ x.1.length ≤ 100000) (k : Own O h (rts i xs :: R)) (hp : p.length ≤ 100000) :
    ACalls Tryd.prog 23 #[ptr i, tx who, tx p] h fun r h' => r = .int .i64 (rmR xs who p).1 ∧ Own O h' (rts i (rmR xs who p).2 :: R) := by
  refine ACalls.of_awp (args := [ptr i, tx who, tx p]) (n := 60) Tryd.func23 rfl rfl (by show 3 ≤ 60; omega) ?_
  obtain ⟨v, k0⟩ := rts_iff.1 k
  have hln := hX.ln
  (repeat' first
    | refine AWP.seq ?_
    | refine AWP.block ?_
    | (refine AWP.skip ?_; try dsimp only [thn, inBlk])
    | (refine AWP.exit ?_; try simp only [thn, inBlk, if_true, reduceIte, Nat.reduceEqDiff])
    | (refine AWP.ret ?_; try dsimp only [thn, inBlk])
    | (refine AWP.condT ?_ ?_; (focus (simp [go_sem]; done)))
    | (refine AWP.condF ?_ ?_; (focus (simp [go_sem]; done)))
    | (apply AWP.rE; (focus (simp [go_sem]; exact ⟨rfl, rfl⟩)); try dsimp only [thn, inBlk])
    | fail)
  refine AWP.callE (by simp [go_sem]; exact ⟨rfl, rfl, rfl, rfl, rfl⟩) (by kernel_rfl) ?_
  refine (rcome_calls (who := who) (p := p) hX k0 hp).mono ?_
  rintro r h1 ⟨rfl, k1⟩
  have kX := rts_iff.2 ⟨v, k1⟩
  by_cases hc : comeE xs who p = 0
  rotate_left
  · have hc' : (comeE xs who p != 0) = true := by simpa using hc
    have e : rmR xs who p = (comeE xs who p, xs) := by unfold rmR; rw [if_neg hc]
    rw [e]
    generalize comeE xs who p = y at *
    refine awpL_restE (by simp [go_sem]; exact ⟨rfl, rfl⟩) ?_; try dsimp only [thn, inBlk]
    (repeat' first
      | refine AWP.seq ?_
      | refine AWP.block ?_
      | (refine AWP.skip ?_; try dsimp only [thn, inBlk])
      | (refine AWP.exit ?_; try simp only [thn, inBlk, if_true, reduceIte, Nat.reduceEqDiff])
      | (refine AWP.ret ?_; try dsimp only [thn, inBlk])
      | (refine AWP.condT ?_ ?_; (focus (simp [go_sem, hc']; done)))
      | (refine AWP.condF ?_ ?_; (focus (simp [go_sem, hc']; done)))
      | (apply AWP.rE; (focus (simp [go_sem, hc']; exact ⟨rfl, rfl⟩)); try dsimp only [thn, inBlk])
      | fail)
    simp [bodyQ, thn, inBlk, resA, resV, go_sem]
    exact kX
  rw [hc]
  by_cases ht : p = [47]
  · have ht' : (p == [47]) = true := by simpa using ht
    have e : rmR xs who p = (1, xs) := by unfold rmR; rw [if_pos hc, if_pos ht]
    rw [e]
    refine awpL_restE (by simp [go_sem]; exact ⟨rfl, rfl⟩) ?_; try dsimp only [thn, inBlk]
    (repeat' first
      | refine AWP.seq ?_
      | refine AWP.block ?_
      | (refine AWP.skip ?_; try dsimp only [thn, inBlk])
      | (refine AWP.exit ?_; try simp only [thn, inBlk, if_true, reduceIte, Nat.reduceEqDiff])
      | (refine AWP.ret ?_; try dsimp only [thn, inBlk])
      | (refine AWP.condT ?_ ?_; (focus (simp [go_sem, ht']; done)))
      | (refine AWP.condF ?_ ?_; (focus (simp [go_sem, ht']; done)))
      | (apply AWP.rE; (focus (simp [go_sem, ht']; exact ⟨rfl, rfl⟩)); try dsimp only [thn, inBlk])
      | fail)
    simp [bodyQ, thn, inBlk, resA, resV, go_sem]
    exact kX
  have ht' : (p == [47]) = false := by simpa using ht
  obtain ⟨pn, hpar, _⟩ := come_parent hc ht
  refine awpL_restE (by simp [go_sem]; exact ⟨rfl, rfl⟩) ?_; try dsimp only [thn, inBlk]
  (repeat' first
    | refine AWP.seq ?_
    | refine AWP.block ?_
    | (refine AWP.skip ?_; try dsimp only [thn, inBlk])
    | (refine AWP.exit ?_; try simp only [thn, inBlk, if_true, reduceIte, Nat.reduceEqDiff])
    | (refine AWP.ret ?_; try dsimp only [thn, inBlk])
    | (refine AWP.condT ?_ ?_; (focus (simp [go_sem, ht']; done)))
    | (refine AWP.condF ?_ ?_; (focus (simp [go_sem, ht']; done)))
    | (apply AWP.rE; (focus (simp [go_sem, ht']; exact ⟨rfl, rfl⟩)); try dsimp only [thn, inBlk])
    | fail)
  refine AWP.callE (by simp [go_sem]; exact ⟨rfl, rfl, rfl, rfl, rfl⟩) (by kernel_rfl) ?_
  refine (rat_calls (p := p) k1 (by omega)).mono ?_
  rintro r h5 ⟨rfl, rfl⟩
  cases hg : get xs p with
  | none =>
    have e : rmR xs who p = (110, xs) := by unfold rmR; rw [if_pos hc, if_neg ht, hg]
    rw [ix_none hg, e]
    refine awpL_restE (by simp [go_sem]; exact ⟨rfl, rfl⟩) ?_; try dsimp only [thn, inBlk]
    (repeat' first
      | refine AWP.seq ?_
      | refine AWP.block ?_
      | (refine AWP.skip ?_; try dsimp only [thn, inBlk])
      | (refine AWP.exit ?_; try simp only [thn, inBlk, if_true, reduceIte, Nat.reduceEqDiff])
      | (refine AWP.ret ?_; try dsimp only [thn, inBlk])
      | (refine AWP.condT ?_ ?_; (focus (simp [go_sem]; done)))
      | (refine AWP.condF ?_ ?_; (focus (simp [go_sem]; done)))
      | (apply AWP.rE; (focus (simp [go_sem]; exact ⟨rfl, rfl⟩)); try dsimp only [thn, inBlk])
      | fail)
    simp [bodyQ, thn, inBlk, resA, resV, go_sem]
    exact kX
  | some nd =>
    obtain ⟨q, hq, hqf, hqv⟩ := node_ix hg
    have e : rmR xs who p = if may who pn 2 = false then (114, xs) else if kids xs p = [] then (0, rmT xs p) else (115, xs) := by
      unfold rmR; rw [if_pos hc, if_neg ht, hg]; dsimp only; rw [hpar]
    have hq0 : ¬ (q : Int) < 0 := by omega
    have ci := k1.obj
    obtain ⟨q2, hq2, hqf2, hqv2⟩ := node_ix hpar
    obtain ⟨bi, bo, cc, e', sz, ti, ro, a, cap, a1, a2, a3, a4, a5⟩ := nds_row k1.b1 hq2 (kd := .i64)
    rw [hqv]
    refine awpL_restE (by simp [go_sem]; exact ⟨rfl, rfl⟩) ?_; try dsimp only [thn, inBlk]
    (repeat' first
      | refine AWP.seq ?_
      | refine AWP.block ?_
      | (refine AWP.skip ?_; try dsimp only [thn, inBlk])
      | (refine AWP.exit ?_; try simp only [thn, inBlk, if_true, reduceIte, Nat.reduceEqDiff])
      | (refine AWP.ret ?_; try dsimp only [thn, inBlk])
      | (refine AWP.condT ?_ ?_; (focus (simp [go_sem, hq0]; done)))
      | (refine AWP.condF ?_ ?_; (focus (simp [go_sem, hq0]; done)))
      | (apply AWP.rE; (focus (simp [go_sem, hq0]; exact ⟨rfl, rfl⟩)); try dsimp only [thn, inBlk])
      | fail)
    refine AWP.draw hmix [.n 0 [1], .n 1 [0], .n 2 [24], .n 3 [25], .n 4 [26], .n 5 [0], .n 6 [2], .w 7 [29] [4], .w 8 [28, 30] [4], .n 9 [27, 31], .n 10 [32], .w 11 [23, 33] [], .n 12 [34]] (by kernel_rfl) ?_
    refine awpD_callR 7 (by rfl) (by rfl) (by simp [go_sem, ci]; exact ⟨rfl, rfl, rfl⟩) (by rfl) (by rfl) (by simp [go_sem]) (by simp [go_sem, ci]; exact ⟨rfl, rfl⟩) (by kernel_rfl) ?_
    refine (rpar_calls (l := p) (by omega)).mono ?_
    rintro r h2 ⟨rfl, rfl⟩
    refine ⟨by simp [still, go_sem, ci], ?_⟩
    refine awpD_callR 0 (by rfl) (by rfl) (by simp [go_sem, ci]; exact ⟨rfl, rfl, rfl⟩) (by rfl) (by rfl) (by simp [go_sem]) (by simp [go_sem, ci]; exact ⟨rfl, rfl⟩) (by kernel_rfl) ?_
    refine (rat_calls (p := par p) k1 (by omega)).mono ?_
    rintro r h3 ⟨rfl, rfl⟩
    refine ⟨by simp [still, go_sem, ci], ?_⟩
    rw [hqv2]
    refine awpD_callR 2 (by rfl) (by rfl) (by simp [go_sem, ci, a1, a2, a3, a4]; exact ⟨rfl, rfl, rfl⟩) (by rfl) (by rfl) (by simp [go_sem]) (by simp [go_sem, ci, a1, a2, a3, a4]; exact ⟨rfl, rfl⟩) (by kernel_rfl) ?_
    refine (rmay_calls (who := who) (x := (par p, pn)) (a := a) (cap := cap) (bit := 2) k1 (hX.mode hq2) (by simp)).mono ?_
    rintro r h5 ⟨rfl, k5⟩
    have ci5 := k5.obj
    refine ⟨by simp [still, go_sem, ci, ci5], ?_⟩
    have kX5 := rts_iff.2 ⟨v, k5⟩
    dsimp only
    cases hmay : may who pn 2
    · rw [hmay, if_pos rfl] at e
      rw [e]
      refine awpD_restR (by rfl) (by simp [go_sem]; exact ⟨rfl, rfl, rfl⟩) ?_; try dsimp only [thn, inBlk]
      (repeat' first
        | refine AWP.seq ?_
        | refine AWP.block ?_
        | (refine AWP.skip ?_; try dsimp only [thn, inBlk])
        | (refine AWP.exit ?_; try simp only [thn, inBlk, if_true, reduceIte, Nat.reduceEqDiff])
        | (refine AWP.ret ?_; try dsimp only [thn, inBlk])
        | (refine AWP.condT ?_ ?_; (focus (simp [go_sem]; done)))
        | (refine AWP.condF ?_ ?_; (focus (simp [go_sem]; done)))
        | (apply AWP.rE; (focus (simp [go_sem]; exact ⟨rfl, rfl⟩)); try dsimp only [thn, inBlk])
        | fail)
      simp [bodyQ, thn, inBlk, resA, resV, go_sem]
      exact kX5
    rw [hmay, if_neg (by decide)] at e
    refine awpD_restR (by rfl) (by simp [go_sem]; exact ⟨rfl, rfl, rfl⟩) ?_; try dsimp only [thn, inBlk]
    (repeat' first
      | refine AWP.seq ?_
      | refine AWP.block ?_
      | (refine AWP.skip ?_; try dsimp only [thn, inBlk])
      | (refine AWP.exit ?_; try simp only [thn, inBlk, if_true, reduceIte, Nat.reduceEqDiff])
      | (refine AWP.ret ?_; try dsimp only [thn, inBlk])
      | (refine AWP.condT ?_ ?_; (focus (simp [go_sem]; done)))
      | (refine AWP.condF ?_ ?_; (focus (simp [go_sem]; done)))
      | (apply AWP.rE; (focus (simp [go_sem]; exact ⟨rfl, rfl⟩)); try dsimp only [thn, inBlk])
      | fail)
    refine AWP.callE (by simp [go_sem]; exact ⟨rfl, rfl, rfl, rfl, rfl⟩) (by kernel_rfl) ?_
    refine (rnames_calls (q := p) hX hP k5).mono ?_
    rintro r h7 ⟨a7, c7, S, rfl, hS1, hS2, k7⟩
    have k8 := k7.tail
    have kX7 := rts_iff.2 ⟨v, k8⟩
    have hSl := hS1.length_eq
    by_cases hk : kids xs p = []
    rotate_left
    · have hS0 : (0 : Int) < S.length := by
        have : kids xs p ≠ [] := hk
        have := List.length_pos_iff.2 this
        omega
      have hS0' : 0 < S.length := by omega
      rw [if_neg hk] at e
      rw [e]
      refine awpL_restE (by simp [go_sem, hS0, hS0']; exact ⟨rfl, rfl⟩) ?_; try dsimp only [thn, inBlk]
      (repeat' first
        | refine AWP.seq ?_
        | refine AWP.block ?_
        | (refine AWP.skip ?_; try dsimp only [thn, inBlk])
        | (refine AWP.exit ?_; try simp only [thn, inBlk, if_true, reduceIte, Nat.reduceEqDiff])
        | (refine AWP.ret ?_; try dsimp only [thn, inBlk])
        | (refine AWP.condT ?_ ?_; (focus (simp [go_sem, hS0, hS0']; done)))
        | (refine AWP.condF ?_ ?_; (focus (simp [go_sem, hS0, hS0']; done)))
        | (apply AWP.rE; (focus (simp [go_sem, hS0, hS0']; exact ⟨rfl, rfl⟩)); try dsimp only [thn, inBlk])
        | fail)
      simp [bodyQ, thn, inBlk, resA, resV, go_sem]
      exact kX7
    have hS0 : ¬ (0 : Int) < S.length := by rw [hSl, hk]; simp
    have hS0' : ¬ 0 < S.length := by rw [hSl, hk]; simp
    have hS00 : S = [] := List.eq_nil_of_length_eq_zero (by omega)
    rw [if_pos hk] at e
    rw [e]
    obtain ⟨zs, hzs, kz⟩ := nds_zs.1 k8.b1
    have hzl : zs.length = xs.length := by rw [← hzs, List.length_map]
    have hjl : q < zs.length := by rw [hzl]; exact (List.getElem?_eq_some_iff.1 hq).1
    have hrm : rmT xs p = (zs.eraseIdx q).map (·.1) := by
      have : rmT xs p = xs.eraseIdx q := by simp only [rmT, hqf]
      rw [this, ← hzs, List.eraseIdx_eq_take_drop_succ, List.eraseIdx_eq_take_drop_succ, List.map_append, List.map_take, List.map_drop]
    rw [hrm]
    obtain ⟨q1, hq1⟩ : ∃ q1, q1 = q + 1 := ⟨_, rfl⟩
    have w1 : IntKind.i64.wrap ((q : Int) + 1) = (q1 : Int) := by rw [wI64 (by omega) (by omega)]; omega
    have kc := Own.outR (A := [_]) kz
    simp only [List.cons_append, List.nil_append] at kc
    have c8 := kc.obj
    have k9 : Own O (h7.push (.row [] 43 5 true false)) (os 43 5 (.slice (some ⟨h7.next, 0, none⟩) 0 0) 0 [] :: cell i (rrow v) :: nzs v zs :: (zs.map sb ++ R)) := (kc.push (.row [] 43 5 true false)).os_mk (Nat.le_refl _) (by simp) (by simp)
    have c9 := k9.b1.obj
    obtain ⟨s1, t1⟩ := nz_piece k9.b2 (lo := 0) (hi := q) (by omega) (by omega) (l := none) (u := some (.int .i64 (q : Int))) (.inl ⟨rfl, rfl⟩) (.inr ⟨.i64, rfl⟩)
    obtain ⟨s2, _⟩ := nz_piece k9.b2 (lo := q1) (hi := zs.length) (by omega) (by omega) (l := some (.int .i64 (q1 : Int))) (u := none) (.inr ⟨.i64, rfl⟩) (.inl ⟨rfl, rfl⟩)
    obtain ⟨v3, h3, e3, k3⟩ := Own.app (P := Tryd.prog) (t := 40) (xt := 40) Tryd.underlying40 tsz43 tby43 tz43 nI40 (by omega) (by omega) (by rfl) k9 t1 (by rw [nz_flat_len]; simp; omega) nz_flat_ok (by omega)
    have c3 := k3.b1.obj
    obtain ⟨s2', t2⟩ := nz_piece k3.b2 (lo := q1) (hi := zs.length) (by omega) (by omega) (l := some (.int .i64 (q1 : Int))) (u := none) (.inr ⟨.i64, rfl⟩) (.inl ⟨rfl, rfl⟩)
    obtain ⟨v4, h4, e4, k4⟩ := Own.app (P := Tryd.prog) (t := 40) (xt := 40) Tryd.underlying40 tsz43 tby43 tz43 nI40 (by omega) (by omega) (by rfl) k3 t2 (by rw [nz_flat_len]; simp) nz_flat_ok (by omega)
    obtain ⟨va4, vc4, rfl⟩ := k4.os_val
    have c4 := k4.b1.obj
    have k10 := k4.b1.set (rrow (.slice va4 (0 + (q - 0) + (zs.length - q1)) vc4))
    refine awpL_restE (by simp [go_sem, hS0, hS0']; exact ⟨rfl, rfl⟩) ?_; try dsimp only [thn, inBlk]
    (repeat' first
      | refine AWP.seq ?_
      | refine AWP.block ?_
      | (refine AWP.skip ?_; try dsimp only [thn, inBlk])
      | (refine AWP.exit ?_; try simp only [thn, inBlk, if_true, reduceIte, Nat.reduceEqDiff])
      | (refine AWP.ret ?_; try dsimp only [thn, inBlk])
      | (refine AWP.condT ?_ ?_; (focus (simp [go_sem, hS0, hS0']; done)))
      | (refine AWP.condF ?_ ?_; (focus (simp [go_sem, hS0, hS0']; done)))
      | (apply AWP.rE; (focus (simp [go_sem, hS0, hS0']; exact ⟨rfl, rfl⟩)); try dsimp only [thn, inBlk])
      | fail)
    refine AWP.draw hmix [.n 0 [0], .n 1 [], .n 2 [0], .n 3 [43], .n 4 [44], .n 5 [45], .n 6 [8], .n 7 [46, 47], .n 9 [0], .n 10 [50], .n 11 [51], .n 12 [52], .n 13 [8], .n 14 [54], .n 15 [53, 55], .w 8 [42, 48] [12, 15], .w 16 [49, 56] [], .n 17 [41], .n 18 [58], .w 19 [59, 57] []] (by kernel_rfl) ?_
    refine awpD_writeR 15 (by rfl) (by rfl) (by simp [go_sem, c8, c9, c3, s1, s2, s2', e3, w1]; exact ⟨rfl, rfl, rfl⟩) (by rfl) (by rfl) (by simp [go_sem]) (by simp [go_sem, c8, c9, c3, s1, s2, s2', e3, w1]; exact ⟨rfl, rfl⟩) (by simp [still, go_sem, c8, c9, c3, s1, s2, s2', e3, w1]) ?_
    refine awpD_writeR 0 (by rfl) (by rfl) (by simp [go_sem, e4]; exact ⟨rfl, rfl, rfl⟩) (by rfl) (by rfl) (by simp [go_sem]) (by simp [go_sem, e4]; exact ⟨rfl, rfl⟩) (by simp [still, go_sem, e4]) ?_
    refine awpD_writeR 2 (by rfl) (by rfl) (by simp [go_sem, c4]; exact ⟨rfl, rfl, rfl⟩) (by rfl) (by rfl) (by simp [go_sem]) (by simp [go_sem, c4]; exact ⟨rfl, rfl⟩) (by simp [still, go_sem, c4]) ?_
    refine awpD_restR (by rfl) (by simp [go_sem]; exact ⟨rfl, rfl, rfl⟩) ?_; try dsimp only [thn, inBlk]
    (repeat' first
      | refine AWP.seq ?_
      | refine AWP.block ?_
      | (refine AWP.skip ?_; try dsimp only [thn, inBlk])
      | (refine AWP.exit ?_; try simp only [thn, inBlk, if_true, reduceIte, Nat.reduceEqDiff])
      | (refine AWP.ret ?_; try dsimp only [thn, inBlk])
      | (refine AWP.condT ?_ ?_; (focus (simp [go_sem]; done)))
      | (refine AWP.condF ?_ ?_; (focus (simp [go_sem]; done)))
      | (apply AWP.rE; (focus (simp [go_sem]; exact ⟨rfl, rfl⟩)); try dsimp only [thn, inBlk])
      | fail)
    simp [bodyQ, thn, inBlk, resA, resV, go_sem]
    have e5 : ([] ++ ((zs.drop 0).take (q - 0)).map nz |>.flatten) ++ (((zs.drop q1).take (zs.length - q1)).map nz).flatten = ((zs.eraseIdx q).map nz).flatten := by
      rw [List.eraseIdx_eq_take_drop_succ, List.map_append, List.flatten_append, hq1, List.take_of_length_le (l := zs.drop (q + 1)) (by simp)]
      simp
    have e6 : 0 + (q - 0) + (zs.length - q1) = (zs.eraseIdx q).length := by rw [List.length_eraseIdx_of_lt hjl]; omega
    have e7 : q + (zs.length - q1) = (zs.eraseIdx q).length := by rw [← e6]; omega
    have k11 := k10
    simp only [List.nil_append] at e5 k11
    rw [e5, e6] at k11
    rw [e7]
    have k12 := Own.subIn (A := [_, _]) ((List.eraseIdx_sublist zs q).map sb) k11.d2
    refine rts_iff.2 ⟨.slice va4 (zs.eraseIdx q).length vc4, ?_⟩
    exact (nds_zs.2 ⟨zs.eraseIdx q, rfl, Own.toR (A := [_]) k12⟩).b1
end
end L19
