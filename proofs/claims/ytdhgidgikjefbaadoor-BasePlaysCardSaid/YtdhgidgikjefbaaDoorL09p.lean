import Derived.Test.YtdhgidgikjefbaaDoorL09o
open Go Ab Go.Proofs
namespace L09
set_option autoImplicit false
set_option linter.unusedSimpArgs false
set_option linter.unusedVariables false

theorem enS_piece {O : Old} {h : AHeap} {R : List Chunk} {v : Value} {es : List En} (k : Own O h (ens v es :: R)) {lo hi : Nat} (h1 : lo ≤ hi) (h2 : hi ≤ es.length)
    {l u : Option Value} (hl : (l = none ∧ lo = 0) ∨ ∃ kd, l = some (.int kd lo)) (hu : (u = none ∧ hi = es.length) ∨ ∃ kd, u = some (.int kd hi)) :
    sliceR Tryd.prog h 28 v l u none = some (sliceV 20 lo hi v) ∧ srcCells h 20 (sliceV 20 lo hi v) = some (hi - lo, (((es.drop lo).take (hi - lo)).map en).flatten) := by
  obtain ⟨s1, s2⟩ := k.os_sl.piece Tryd.underlying28 tsz34 h1 h2 hl hu
  refine ⟨s1, ?_⟩
  rw [s2.src, flat_piece lo (hi - lo) en_all (by rw [List.length_map]; omega)]
  simp only [List.map_drop, List.map_take]
theorem en_flat_len {es : List En} : (es.map en).flatten.length = es.length * 20 := by
  rw [flat_length en_all, List.length_map]
theorem en_flat_ok {es : List En} : (es.map en).flatten.all okCell = true := by
  rw [List.all_eq_true]
  intro x hx
  obtain ⟨y, hy, hxy⟩ := List.mem_flatten.1 hx
  obtain ⟨e, _, rfl⟩ := List.mem_map.1 hy
  exact List.all_eq_true.1 en_ok x hxy
theorem build0 {id : Nat} : buildSliceA Tryd.prog id 28 0 [] = some (.slice (some ⟨id, 0, none⟩) 0 0, .row [] 34 20 true false) := by
  rw [buildSliceA_nil]
  simp only [Tryd.underlying28, tsz34, tzE]
  rw [if_pos ⟨by omega, by rw [zE_size]; omega, by omega, by simp only [Value.cells]; exact zE_const⟩]
  simp [Instr.fill, zeros]
section
variable {O : Old} {h : AHeap} {R : List Chunk} {i : Nat} {es : List En}
def dropS (es : List En) (n : List UInt8) : List En := match idxE es n with
  | some j => es.eraseIdx j
  | none => es
set_option maxHeartbeats 8000000 in
theorem rdrop_calls {n : List UInt8} (k : Own O h (rbs i es :: R)) (hm : es.length ≤ 1000) :
    ACalls Tryd.prog 10 #[ptr i, tx n] h fun r h' => r = .bool (idxE es n).isSome ∧ Own O h' (rbs i (dropS es n) :: R) := by
  refine ACalls.of_awp (args := [ptr i, tx n]) (n := 30) Tryd.func10 rfl rfl (by show 2 ≤ 30; omega) ?_
  obtain ⟨v, k0⟩ := rbs_iff.1 k
  (repeat' first
    | refine AWP.seq ?_
    | refine AWP.block ?_
    | (refine AWP.skip ?_; try dsimp only [thn, inBlk])
    | (refine AWP.exit ?_; try simp only [thn, inBlk, if_true, reduceIte, Nat.reduceEqDiff])
    | (refine AWP.ret ?_; try dsimp only [thn, inBlk])
    | (refine AWP.condT ?_ ?_; (focus (simp [go_sem]; done)))
    | (refine AWP.condF ?_ ?_; (focus (simp [go_sem]; done)))
    | (apply AWP.rE; (focus (simp [go_sem]; exact ⟨rfl, rfl⟩)); try dsimp only [thn, inBlk])
    | fail)
  refine AWP.callE (by simp [go_sem]; exact ⟨rfl, rfl, rfl, rfl, rfl⟩) (by kernel_rfl) ?_
  refine (at_calls (n := n) k0 (by omega)).mono ?_
  rintro r h2 ⟨rfl, rfl⟩
  cases hi : idxE es n with
  | none =>
    have e1 : idxV es n = -1 := by simp only [idxV, hi]
    have e2 : dropS es n = es := by simp only [dropS, hi]
    rw [e1, e2]
    refine awpL_restE (by simp [go_sem]; exact ⟨rfl, rfl⟩) ?_; try dsimp only [thn, inBlk]
    (repeat' first
      | refine AWP.seq ?_
      | refine AWP.block ?_
      | (refine AWP.skip ?_; try dsimp only [thn, inBlk])
      | (refine AWP.exit ?_; try simp only [thn, inBlk, if_true, reduceIte, Nat.reduceEqDiff])
      | (refine AWP.ret ?_; try dsimp only [thn, inBlk])
      | (refine AWP.condT ?_ ?_; (focus (simp [go_sem]; done)))
      | (refine AWP.condF ?_ ?_; (focus (simp [go_sem]; done)))
      | (apply AWP.rE; (focus (simp [go_sem]; exact ⟨rfl, rfl⟩)); try dsimp only [thn, inBlk])
      | fail)
    simp [bodyQ, thn, inBlk, resA, resV, go_sem]
    exact k
  | some j =>
    obtain ⟨e, he, hn, e1⟩ := idx_some hi
    have e2 : dropS es n = es.eraseIdx j := by simp only [dropS, hi]
    have hjl : j < es.length := (List.getElem?_eq_some_iff.1 he).1
    have hj0 : ¬ (j : Int) < 0 := by omega
    rw [e1, e2]
    have c0 := k0.obj
    obtain ⟨j1, hj1⟩ : ∃ j1, j1 = j + 1 := ⟨_, rfl⟩
    have w1 : IntKind.i64.wrap ((j : Int) + 1) = (j1 : Int) := by rw [wI64 (by omega) (by omega)]; omega
    have k1 : Own O (h2.push (.row [] 34 20 true false)) (os 34 20 (.slice (some ⟨h2.next, 0, none⟩) 0 0) 0 [] :: cell i (rrow v) :: ens v es :: R) := (k0.push (.row [] 34 20 true false)).os_mk (Nat.le_refl _) (by simp) (by simp)
    have c1 := k1.b1.obj
    obtain ⟨s1, t1⟩ := enS_piece k1.b2 (lo := 0) (hi := j) (by omega) (by omega) (l := none) (u := some (.int .i64 (j : Int))) (.inl ⟨rfl, rfl⟩) (.inr ⟨.i64, rfl⟩)
    obtain ⟨s2, _⟩ := enS_piece k1.b2 (lo := j1) (hi := es.length) (by omega) (by omega) (l := some (.int .i64 (j1 : Int))) (u := none) (.inr ⟨.i64, rfl⟩) (.inl ⟨rfl, rfl⟩)
    obtain ⟨v3, h3, e3, k3⟩ := Own.app (P := Tryd.prog) (t := 28) (xt := 28) Tryd.underlying28 tsz34 tby34 tzE nI28 (by omega) (by omega) zE_size k1 t1 (by rw [en_flat_len]; simp; omega) en_flat_ok (by omega)
    have c3 := k3.b1.obj
    obtain ⟨s2', t2⟩ := enS_piece k3.b2 (lo := j1) (hi := es.length) (by omega) (by omega) (l := some (.int .i64 (j1 : Int))) (u := none) (.inr ⟨.i64, rfl⟩) (.inl ⟨rfl, rfl⟩)
    obtain ⟨v4, h4, e4, k4⟩ := Own.app (P := Tryd.prog) (t := 28) (xt := 28) Tryd.underlying28 tsz34 tby34 tzE nI28 (by omega) (by omega) zE_size k3 t2 (by rw [en_flat_len]; simp) en_flat_ok (by omega)
    obtain ⟨va4, vc4, rfl⟩ := k4.os_val
    have c4 := k4.b1.obj
    have b0 := build0 (id := h2.next)
    have k5 := k4.b1.set (rrow (.slice va4 (0 + (j - 0) + (es.length - j1)) vc4))
    refine awpL_restE (by simp [go_sem]; exact ⟨rfl, rfl⟩) ?_; try dsimp only [thn, inBlk]
    (repeat' first
      | refine AWP.seq ?_
      | refine AWP.block ?_
      | (refine AWP.skip ?_; try dsimp only [thn, inBlk])
      | (refine AWP.exit ?_; try simp only [thn, inBlk, if_true, reduceIte, Nat.reduceEqDiff])
      | (refine AWP.ret ?_; try dsimp only [thn, inBlk])
      | (refine AWP.condT ?_ ?_; (focus (simp [go_sem, hj0]; done)))
      | (refine AWP.condF ?_ ?_; (focus (simp [go_sem, hj0]; done)))
      | (apply AWP.rE; (focus (simp [go_sem, hj0]; exact ⟨rfl, rfl⟩)); try dsimp only [thn, inBlk])
      | fail)
    refine AWP.draw hmix [.n 0 [0], .n 1 [], .n 2 [0], .n 3 [13], .n 4 [14], .n 5 [15], .n 6 [5], .n 7 [16, 17], .n 9 [0], .n 10 [20], .n 11 [21], .n 12 [22], .n 13 [5], .n 14 [24], .n 15 [23, 25], .w 8 [12, 18] [12, 15], .w 16 [19, 26] [], .n 17 [11], .n 18 [28], .w 19 [29, 27] []] (by kernel_rfl) ?_
    refine awpD_writeR 15 (by rfl) (by rfl) (by simp [go_sem, ↓b0, c1, c3, s1, s2, s2', e3, w1]; exact ⟨rfl, rfl, rfl⟩) (by rfl) (by rfl) (by simp [go_sem]) (by simp [go_sem, ↓b0, c1, c3, s1, s2, s2', e3, w1]; exact ⟨rfl, rfl⟩) (by simp [still, go_sem, ↓b0, c1, c3, s1, s2, s2', e3, w1]) ?_
    refine awpD_writeR 0 (by rfl) (by rfl) (by simp [go_sem, e4]; exact ⟨rfl, rfl, rfl⟩) (by rfl) (by rfl) (by simp [go_sem]) (by simp [go_sem, e4]; exact ⟨rfl, rfl⟩) (by simp [still, go_sem, e4]) ?_
    refine awpD_writeR 2 (by rfl) (by rfl) (by simp [go_sem, c4]; exact ⟨rfl, rfl, rfl⟩) (by rfl) (by rfl) (by simp [go_sem]) (by simp [go_sem, c4]; exact ⟨rfl, rfl⟩) (by simp [still, go_sem, c4]) ?_
    refine awpD_restR (by rfl) (by simp [go_sem]; exact ⟨rfl, rfl, rfl⟩) ?_; try dsimp only [thn, inBlk]
    (repeat' first
      | refine AWP.seq ?_
      | refine AWP.block ?_
      | (refine AWP.skip ?_; try dsimp only [thn, inBlk])
      | (refine AWP.exit ?_; try simp only [thn, inBlk, if_true, reduceIte, Nat.reduceEqDiff])
      | (refine AWP.ret ?_; try dsimp only [thn, inBlk])
      | (refine AWP.condT ?_ ?_; (focus (simp [go_sem]; done)))
      | (refine AWP.condF ?_ ?_; (focus (simp [go_sem]; done)))
      | (apply AWP.rE; (focus (simp [go_sem]; exact ⟨rfl, rfl⟩)); try dsimp only [thn, inBlk])
      | fail)
    simp [bodyQ, thn, inBlk, resA, resV, go_sem]
    have e5 : ([] ++ ((es.drop 0).take (j - 0)).map en |>.flatten) ++ (((es.drop j1).take (es.length - j1)).map en).flatten = ((es.eraseIdx j).map en).flatten := by
      rw [List.eraseIdx_eq_take_drop_succ, List.map_append, List.flatten_append, hj1, List.take_of_length_le (l := es.drop (j + 1)) (by simp)]
      simp
    have e6 : 0 + (j - 0) + (es.length - j1) = (es.eraseIdx j).length := by rw [List.length_eraseIdx_of_lt hjl]; omega
    have e7 : j + (es.length - j1) = (es.eraseIdx j).length := by rw [← e6]; omega
    have k6 := k5
    simp only [List.nil_append] at e5 k6
    rw [e5, e6] at k6
    rw [e7]
    exact rbs_iff.2 ⟨_, k6.d2⟩
end
end L09
