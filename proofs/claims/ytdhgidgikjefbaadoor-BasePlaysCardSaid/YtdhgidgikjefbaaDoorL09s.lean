import Derived.Test.YtdhgidgikjefbaaDoorL09r
open Go Ab Go.Proofs
namespace L09
set_option autoImplicit false
set_option linter.unusedSimpArgs false
set_option linter.unusedVariables false

/-! ### The program's principals are the document's -/
theorem buildD : buildP Tryd.prog 30 [] = some (.agg #[.slice none 0 0]) := by kernel_rfl
theorem get_ok {L : BL} {es : List En} (hI : BI L) (hr : RS L es) (hw : ∀ e ∈ es, e.Wf ∧ e.nm.length ≤ 300) (n : List UInt8) : aggEqR Tryd.prog .neq 34 (enV (getR L n).1) (enV (getR L n).1) = some (.bool false) := by
  unfold getR
  cases hg : get L n with
  | none => exact zE_neq
  | some e =>
    dsimp only
    obtain ⟨a, b⟩ := get_mem hI hg
    obtain ⟨c, d⟩ := hw e ((hr.me e).2 (by rw [a]; exact b))
    split
    · exact zE_neq
    · exact en_neq c (Nat.le_trans d (by decide))
def zap (x : Nat) (es : List En) : List En := List.replicate x zE ++ es.drop x
theorem zap_len {x : Nat} {es : List En} (h : x ≤ es.length) : (zap x es).length = es.length := by simp [zap]; omega
theorem zap_at {x : Nat} {es : List En} : (zap x es)[x]? = es[x]? := by
  rw [zap, List.getElem?_append_right (by simp)]; simp
theorem zap_set {x : Nat} {es : List En} (h : x < es.length) : (zap x es).set x zE = zap (x + 1) es := by
  rw [zap, zap, List.set_append_right _ _ (by simp), List.length_replicate, Nat.sub_self, List.drop_eq_getElem_cons h, List.set_cons_zero, List.replicate_succ', List.append_assoc]
  rfl
set_option maxHeartbeats 16000000 in
theorem plays_calls {h : AHeap} {w : Value} {s1 : List Op} (hb : h.base = h.next) (hp : Script h w s1) (hn1 : s1.length ≤ 9223372036854775807) (hwo : ∀ o ∈ s1, o.e.Wf) :
    ACalls Tryd.prog 3 #[w] h fun r _ => r = .bool true := by
  refine Own.of_wf fun k0 => ?_
  obtain ⟨va, vc, rfl⟩ := hp.val
  refine ACalls.of_awp (args := [.slice va s1.length vc]) (n := 111) Tryd.func3 rfl rfl (by show 1 ≤ 111; omega) ?_
  (repeat' first
    | refine AWP.seq ?_
    | refine AWP.block ?_
    | (refine AWP.skip ?_; try dsimp only [thn, inBlk])
    | (refine AWP.exit ?_; try simp only [thn, inBlk, if_true, reduceIte, Nat.reduceEqDiff])
    | (refine AWP.ret ?_; try dsimp only [thn, inBlk])
    | (refine AWP.condT ?_ ?_; (focus (simp [go_sem]; done)))
    | (refine AWP.condF ?_ ?_; (focus (simp [go_sem]; done)))
    | (apply AWP.rE; (focus (simp [go_sem]; exact ⟨rfl, rfl⟩)); try dsimp only [thn, inBlk])
    | (apply AWP.dE hmix [.n 0 [11], .n 1 [12], .n 2 [93, 94], .n 3 [95], .n 4 [4], .n 5 [97], .n 6 [98], .n 7 [99], .n 8 [12], .n 9 [100, 101], .n 10 [102], .n 11 [96, 103]]; (focus kernel_rfl); (focus (simp [go_sem]; exact ⟨rfl, rfl⟩)); try dsimp only [thn, inBlk])
    | fail)
  refine AWP.callE (by simp [go_sem]; exact ⟨rfl, rfl, rfl, rfl, rfl⟩) (by kernel_rfl) ?_
  refine (speaks_calls k0).mono ?_
  rintro r h1 ⟨rfl, k1⟩
  refine awpL_restE (by simp [go_sem]; exact ⟨rfl, rfl⟩) ?_; try dsimp only [thn, inBlk]
  (repeat' first
    | refine AWP.seq ?_
    | refine AWP.block ?_
    | (refine AWP.skip ?_; try dsimp only [thn, inBlk])
    | (refine AWP.exit ?_; try simp only [thn, inBlk, if_true, reduceIte, Nat.reduceEqDiff])
    | (refine AWP.ret ?_; try dsimp only [thn, inBlk])
    | (refine AWP.condT ?_ ?_; (focus (simp [go_sem]; done)))
    | (refine AWP.condF ?_ ?_; (focus (simp [go_sem]; done)))
    | (apply AWP.rE; (focus (simp [go_sem]; exact ⟨rfl, rfl⟩)); try dsimp only [thn, inBlk])
    | (apply AWP.dE hmix [.n 0 [11], .n 1 [12], .n 2 [93, 94], .n 3 [95], .n 4 [4], .n 5 [97], .n 6 [98], .n 7 [99], .n 8 [12], .n 9 [100, 101], .n 10 [102], .n 11 [96, 103]]; (focus kernel_rfl); (focus (simp [go_sem]; exact ⟨rfl, rfl⟩)); try dsimp only [thn, inBlk])
    | fail)
  refine AWP.callE (by simp [go_sem]; exact ⟨rfl, rfl, rfl, rfl, rfl⟩) (by kernel_rfl) ?_
  refine (great_calls k1 (fun hh kk => hp.of_old hb kk) hn1).mono ?_
  rintro r h2 ⟨b1, rfl, g1, k2⟩
  cases b1
  rotate_left
  · refine awpL_restE (by simp [go_sem]; exact ⟨rfl, rfl⟩) ?_; try dsimp only [thn, inBlk]
    (repeat' first
      | refine AWP.seq ?_
      | refine AWP.block ?_
      | (refine AWP.skip ?_; try dsimp only [thn, inBlk])
      | (refine AWP.exit ?_; try simp only [thn, inBlk, if_true, reduceIte, Nat.reduceEqDiff])
      | (refine AWP.ret ?_; try dsimp only [thn, inBlk])
      | (refine AWP.condT ?_ ?_; (focus (simp [go_sem]; done)))
      | (refine AWP.condF ?_ ?_; (focus (simp [go_sem]; done)))
      | (apply AWP.rE; (focus (simp [go_sem]; exact ⟨rfl, rfl⟩)); try dsimp only [thn, inBlk])
      | (apply AWP.dE hmix [.n 0 [11], .n 1 [12], .n 2 [93, 94], .n 3 [95], .n 4 [4], .n 5 [97], .n 6 [98], .n 7 [99], .n 8 [12], .n 9 [100, 101], .n 10 [102], .n 11 [96, 103]]; (focus kernel_rfl); (focus (simp [go_sem]; exact ⟨rfl, rfl⟩)); try dsimp only [thn, inBlk])
      | fail)
    simp [bodyQ, thn, inBlk, resA, resV, go_sem]
  obtain ⟨l1, o1⟩ := g1 rfl
  refine awpL_restE (by simp [go_sem]; exact ⟨rfl, rfl⟩) ?_; try dsimp only [thn, inBlk]
  (repeat' first
    | refine AWP.seq ?_
    | refine AWP.block ?_
    | (refine AWP.skip ?_; try dsimp only [thn, inBlk])
    | (refine AWP.exit ?_; try simp only [thn, inBlk, if_true, reduceIte, Nat.reduceEqDiff])
    | (refine AWP.ret ?_; try dsimp only [thn, inBlk])
    | (refine AWP.condT ?_ ?_; (focus (simp [go_sem]; done)))
    | (refine AWP.condF ?_ ?_; (focus (simp [go_sem]; done)))
    | (apply AWP.rE; (focus (simp [go_sem]; exact ⟨rfl, rfl⟩)); try dsimp only [thn, inBlk])
    | (apply AWP.dE hmix [.n 0 [11], .n 1 [12], .n 2 [93, 94], .n 3 [95], .n 4 [4], .n 5 [97], .n 6 [98], .n 7 [99], .n 8 [12], .n 9 [100, 101], .n 10 [102], .n 11 [96, 103]]; (focus kernel_rfl); (focus (simp [go_sem]; exact ⟨rfl, rfl⟩)); try dsimp only [thn, inBlk])
    | fail)
  refine AWP.callE (by simp [go_sem]; exact ⟨rfl, rfl, rfl, rfl, rfl⟩) (by kernel_rfl) ?_
  refine (new_calls k2).mono ?_
  rintro r h4 ⟨i, rfl, k4⟩
  have k5 : Own h.asOld (h4.push (rrow (.slice none 0 0))) (cell h4.next (rrow (.slice none 0 0)) :: bsc i [] :: []) := k4.push _
  have k5' : Own h.asOld (h4.push (rrow (.slice none 0 0))) [bsc i [], rbs h4.next []] := by
    have := (k5.nil 34 20)
    have k7 : Own h.asOld (h4.push (rrow (.slice none 0 0))) (rbs h4.next [] :: bsc i [] :: []) := rbs_iff.2 ⟨_, this.b1⟩
    exact k7.b1
  refine awpL_restE (by simp [go_sem, buildD]; exact ⟨rfl, rfl⟩) ?_; try dsimp only [thn, inBlk]
  (repeat' first
    | refine AWP.seq ?_
    | refine AWP.block ?_
    | (refine AWP.skip ?_; try dsimp only [thn, inBlk])
    | (refine AWP.exit ?_; try simp only [thn, inBlk, if_true, reduceIte, Nat.reduceEqDiff])
    | (refine AWP.ret ?_; try dsimp only [thn, inBlk])
    | (refine AWP.condT ?_ ?_; (focus (simp [go_sem]; done)))
    | (refine AWP.condF ?_ ?_; (focus (simp [go_sem]; done)))
    | (apply AWP.rE; (focus (simp [go_sem]; exact ⟨rfl, rfl⟩)); try dsimp only [thn, inBlk])
    | (apply AWP.dE hmix [.n 0 [11], .n 1 [12], .n 2 [93, 94], .n 3 [95], .n 4 [4], .n 5 [97], .n 6 [98], .n 7 [99], .n 8 [12], .n 9 [100, 101], .n 10 [102], .n 11 [96, 103]]; (focus kernel_rfl); (focus (simp [go_sem]; exact ⟨rfl, rfl⟩)); try dsimp only [thn, inBlk])
    | fail)
  refine AWP.loopR [3, 4, 22, 23, 24] (fun m s h' => ∃ (j : Nat) (L : BL) (es : List En), j ≤ s1.length ∧ m = s1.length - j ∧ s = ⟨111, [(3, ptr i), (4, ptr h4.next), (22, .slice va s1.length vc), (23, .int .i64 s1.length), (24, .int .i64 j)]⟩ ∧ BI L ∧ RS L es ∧ (∀ e ∈ es, e.Wf ∧ e.nm.length ≤ 300) ∧ Own h.asOld h' [bsc i L, rbs h4.next es]) ?_ ?_
  · exact ⟨_, 0, [], [], by omega, rfl, rfl, BI.nil, RS.nil, by simp, k5'⟩
  generalize h4.next = ib
  rintro m s hB ⟨j, L, es, hj, rfl, rfl, bi, rs, hw, kB⟩
  by_cases hjm : j < s1.length
  rotate_left
  · have hjm' : ¬ (j : Int) < s1.length := by omega
    (repeat' first
      | refine AWP.seq ?_
      | refine AWP.block ?_
      | (refine AWP.skip ?_; try dsimp only [thn, inBlk])
      | (refine AWP.exit ?_; try simp only [thn, inBlk, if_true, reduceIte, Nat.reduceEqDiff])
      | (refine AWP.ret ?_; try dsimp only [thn, inBlk])
      | (refine AWP.condT ?_ ?_; (focus (simp [go_sem, hjm']; done)))
      | (refine AWP.condF ?_ ?_; (focus (simp [go_sem, hjm']; done)))
      | (apply AWP.rE; (focus (simp [go_sem, hjm']; exact ⟨rfl, rfl⟩)); try dsimp only [thn, inBlk])
      | (apply AWP.dE hmix [.n 0 [11], .n 1 [12], .n 2 [93, 94], .n 3 [95], .n 4 [4], .n 5 [97], .n 6 [98], .n 7 [99], .n 8 [12], .n 9 [100, 101], .n 10 [102], .n 11 [96, 103]]; (focus kernel_rfl); (focus (simp [go_sem, hjm']; exact ⟨rfl, rfl⟩)); try dsimp only [thn, inBlk])
      | fail)
    simp [bodyQ, thn, inBlk, resA, resV, go_sem]
  have hjm' : (j : Int) < s1.length := by omega
  have hOB := o1 _ (List.getElem_mem hjm)
  have hWo := hwo _ (List.getElem_mem hjm)
  obtain ⟨i0, f0, c0, q0', z0, ti0, ro0, p0, q0, m0, t0⟩ := (hp.of_old hb kB).at hjm
  generalize s1[j] = o at t0 hOB hWo
  have w1 : IntKind.i64.wrap ((j : Int) + 1) = ((j + 1 : Nat) : Int) := by rw [wI64 (by omega) (by omega)]; omega
  have k6 := kB.push (.row (op o) 36 21 true false)
  have c6 := k6.obj
  obtain ⟨K, hK1, wK⟩ := and_mask o.k 3 (by omega)
  (repeat' first
    | refine AWP.seq ?_
    | refine AWP.block ?_
    | (refine AWP.skip ?_; try dsimp only [thn, inBlk])
    | (refine AWP.exit ?_; try simp only [thn, inBlk, if_true, reduceIte, Nat.reduceEqDiff])
    | (refine AWP.ret ?_; try dsimp only [thn, inBlk])
    | (refine AWP.condT ?_ ?_; (focus (simp [go_sem, hjm', p0, q0, m0, t0, ↓allocO, c6, wK]; done)))
    | (refine AWP.condF ?_ ?_; (focus (simp [go_sem, hjm', p0, q0, m0, t0, ↓allocO, c6, wK]; done)))
    | (apply AWP.rE; (focus (simp [go_sem, hjm', p0, q0, m0, t0, ↓allocO, c6, wK]; exact ⟨rfl, rfl⟩)); try dsimp only [thn, inBlk])
    | (apply AWP.dE hmix [.n 0 [11], .n 1 [12], .n 2 [93, 94], .n 3 [95], .n 4 [4], .n 5 [97], .n 6 [98], .n 7 [99], .n 8 [12], .n 9 [100, 101], .n 10 [102], .n 11 [96, 103]]; (focus kernel_rfl); (focus (simp [go_sem, hjm', p0, q0, m0, t0, ↓allocO, c6, wK]; exact ⟨rfl, rfl⟩)); try dsimp only [thn, inBlk])
    | fail)
  generalize hB.push (.row (op o) 36 21 true false) = hC at k6 c6 ⊢
  generalize hB.next = io at k6 c6 ⊢
  refine AWP.cutT [3, 4, 6, 22, 23, 24] (fun s h' => ∃ (L : BL) (es : List En), s = ⟨111, [(3, ptr i), (4, ptr ib), (6, ptr io), (22, .slice va s1.length vc), (23, .int .i64 s1.length), (24, .int .i64 j)]⟩ ∧ BI L ∧ RS L es ∧ (∀ e ∈ es, e.Wf ∧ e.nm.length ≤ 300) ∧ Own h.asOld h' [cell io (.row (op o) 36 21 true false), bsc i L, rbs ib es]) ?_ ?_
  · have hes : es.length ≤ 16 := by rw [rs.len bi]; exact bi.mx
    by_cases hK : K = 0
    · subst hK
      refine AWP.condT (by simp [go_sem]) ?_
      (repeat' first
        | refine AWP.seq ?_
        | refine AWP.block ?_
        | (refine AWP.skip ?_; try dsimp only [thn, inBlk])
        | (refine AWP.exit ?_; try simp only [thn, inBlk, if_true, reduceIte, Nat.reduceEqDiff])
        | (refine AWP.ret ?_; try dsimp only [thn, inBlk])
        | (refine AWP.condT ?_ ?_; (focus (simp [go_sem]; done)))
        | (refine AWP.condF ?_ ?_; (focus (simp [go_sem]; done)))
        | (apply AWP.rE; (focus (simp [go_sem]; exact ⟨rfl, rfl⟩)); try dsimp only [thn, inBlk])
        | (apply AWP.dE hmix [.n 0 [11], .n 1 [12], .n 2 [93, 94], .n 3 [95], .n 4 [4], .n 5 [97], .n 6 [98], .n 7 [99], .n 8 [12], .n 9 [100, 101], .n 10 [102], .n 11 [96, 103]]; (focus kernel_rfl); (focus (simp [go_sem]; exact ⟨rfl, rfl⟩)); try dsimp only [thn, inBlk])
        | fail)
      refine AWP.draw hmix [.n 0 [3], .n 1 [6], .n 2 [33], .n 3 [34], .n 5 [4], .n 6 [6], .n 7 [38], .n 8 [39], .w 4 [32, 35] [8], .w 9 [37, 40] [], .n 10 [36, 41]] (by kernel_rfl) ?_
      refine awpD_callR 8 (by rfl) (by rfl) (by simp [go_sem, c6]; exact ⟨rfl, rfl, rfl⟩) (by rfl) (by rfl) (by simp [go_sem]) (by simp [go_sem, c6]; exact ⟨rfl, rfl⟩) (by kernel_rfl) ?_
      refine (drop_calls (n := o.e.nm) bi k6.b1 (by omega)).mono ?_
      rintro r h7 ⟨rfl, k7⟩
      have c7 := k7.b1.obj
      refine ⟨by simp [still, go_sem, c6, c7], ?_⟩
      refine awpD_callR 0 (by rfl) (by rfl) (by simp [go_sem, c7]; exact ⟨rfl, rfl, rfl⟩) (by rfl) (by rfl) (by simp [go_sem]) (by simp [go_sem, c7]; exact ⟨rfl, rfl⟩) (by kernel_rfl) ?_
      refine (rdrop_calls (n := o.e.nm) k7.b2 (by omega)).mono ?_
      rintro r h8 ⟨rfl, k8⟩
      refine ⟨by simp [still, go_sem], ?_⟩
      rw [rs.isS bi]
      refine awpD_restR (by rfl) (by simp [go_sem]; exact ⟨rfl, rfl, rfl⟩) ?_; try dsimp only [thn, inBlk]
      (repeat' first
        | refine AWP.seq ?_
        | refine AWP.block ?_
        | (refine AWP.skip ?_; try dsimp only [thn, inBlk])
        | (refine AWP.exit ?_; try simp only [thn, inBlk, if_true, reduceIte, Nat.reduceEqDiff])
        | (refine AWP.ret ?_; try dsimp only [thn, inBlk])
        | (refine AWP.condT ?_ ?_; (focus (simp [go_sem]; done)))
        | (refine AWP.condF ?_ ?_; (focus (simp [go_sem]; done)))
        | (apply AWP.rE; (focus (simp [go_sem]; exact ⟨rfl, rfl⟩)); try dsimp only [thn, inBlk])
        | (apply AWP.dE hmix [.n 0 [11], .n 1 [12], .n 2 [93, 94], .n 3 [95], .n 4 [4], .n 5 [97], .n 6 [98], .n 7 [99], .n 8 [12], .n 9 [100, 101], .n 10 [102], .n 11 [96, 103]]; (focus kernel_rfl); (focus (simp [go_sem]; exact ⟨rfl, rfl⟩)); try dsimp only [thn, inBlk])
        | fail)
      exact ⟨_, _, by simp [go_sem], bi.drop _, rs.dropE bi _, fun e he => hw e (mem_dropS he), k8.b1.b2⟩
    · refine AWP.condF (by simp [go_sem, hK]) ?_
      (repeat' first
        | refine AWP.seq ?_
        | refine AWP.block ?_
        | (refine AWP.skip ?_; try dsimp only [thn, inBlk])
        | (refine AWP.exit ?_; try simp only [thn, inBlk, if_true, reduceIte, Nat.reduceEqDiff])
        | (refine AWP.ret ?_; try dsimp only [thn, inBlk])
        | (refine AWP.condT ?_ ?_; (focus (simp [go_sem]; done)))
        | (refine AWP.condF ?_ ?_; (focus (simp [go_sem]; done)))
        | (apply AWP.rE; (focus (simp [go_sem]; exact ⟨rfl, rfl⟩)); try dsimp only [thn, inBlk])
        | (apply AWP.dE hmix [.n 0 [11], .n 1 [12], .n 2 [93, 94], .n 3 [95], .n 4 [4], .n 5 [97], .n 6 [98], .n 7 [99], .n 8 [12], .n 9 [100, 101], .n 10 [102], .n 11 [96, 103]]; (focus kernel_rfl); (focus (simp [go_sem]; exact ⟨rfl, rfl⟩)); try dsimp only [thn, inBlk])
        | fail)
      refine AWP.draw hmix [.n 0 [3], .n 1 [6], .n 2 [44], .n 4 [4], .n 5 [6], .n 6 [48], .w 3 [43, 45] [6], .w 7 [47, 49] [], .n 8 [46, 50]] (by kernel_rfl) ?_
      refine awpD_callR 6 (by rfl) (by rfl) (by simp [go_sem, c6]; exact ⟨rfl, rfl, rfl⟩) (by rfl) (by rfl) (by simp [go_sem]) (by simp [go_sem, c6]; exact ⟨rfl, rfl⟩) (by kernel_rfl) ?_
      refine (put_calls (e := o.e) bi k6.b1 (by omega)).mono ?_
      rintro r h7 ⟨rfl, k7⟩
      have c7 := k7.b1.obj
      refine ⟨by simp [still, go_sem, c6, c7], ?_⟩
      refine awpD_callR 0 (by rfl) (by rfl) (by simp [go_sem, c7]; exact ⟨rfl, rfl, rfl⟩) (by rfl) (by rfl) (by simp [go_sem]) (by simp [go_sem, c7]; exact ⟨rfl, rfl⟩) (by kernel_rfl) ?_
      refine (rput_calls (e := o.e) k7.b2 (by omega) (by omega)).mono ?_
      rintro r h8 ⟨rfl, k8⟩
      refine ⟨by simp [still, go_sem], ?_⟩
      obtain ⟨pe, pr⟩ := rs.putE bi o.e
      rw [pe]
      refine awpD_restR (by rfl) (by simp [go_sem]; exact ⟨rfl, rfl, rfl⟩) ?_; try dsimp only [thn, inBlk]
      (repeat' first
        | refine AWP.seq ?_
        | refine AWP.block ?_
        | (refine AWP.skip ?_; try dsimp only [thn, inBlk])
        | (refine AWP.exit ?_; try simp only [thn, inBlk, if_true, reduceIte, Nat.reduceEqDiff])
        | (refine AWP.ret ?_; try dsimp only [thn, inBlk])
        | (refine AWP.condT ?_ ?_; (focus (simp [go_sem]; done)))
        | (refine AWP.condF ?_ ?_; (focus (simp [go_sem]; done)))
        | (apply AWP.rE; (focus (simp [go_sem]; exact ⟨rfl, rfl⟩)); try dsimp only [thn, inBlk])
        | (apply AWP.dE hmix [.n 0 [11], .n 1 [12], .n 2 [93, 94], .n 3 [95], .n 4 [4], .n 5 [97], .n 6 [98], .n 7 [99], .n 8 [12], .n 9 [100, 101], .n 10 [102], .n 11 [96, 103]]; (focus kernel_rfl); (focus (simp [go_sem]; exact ⟨rfl, rfl⟩)); try dsimp only [thn, inBlk])
        | fail)
      refine ⟨_, _, by simp [go_sem], bi.put (by omega), pr, fun e he => ?_, k8.b1.b2⟩
      rcases mem_putS he with rfl | he
      · exact ⟨hWo, hOB⟩
      · exact hw e he
  rintro s h7 ⟨L, es, rfl, bi, rs, hw, k7⟩
  have hmx := bi.mx
  have hes := rs.len bi
  have c7 := k7.obj
  (repeat' first
    | refine AWP.seq ?_
    | refine AWP.block ?_
    | (refine AWP.skip ?_; try dsimp only [thn, inBlk])
    | (refine AWP.exit ?_; try simp only [thn, inBlk, if_true, reduceIte, Nat.reduceEqDiff])
    | (refine AWP.ret ?_; try dsimp only [thn, inBlk])
    | (refine AWP.condT ?_ ?_; (focus (simp [go_sem]; done)))
    | (refine AWP.condF ?_ ?_; (focus (simp [go_sem]; done)))
    | (apply AWP.rE; (focus (simp [go_sem]; exact ⟨rfl, rfl⟩)); try dsimp only [thn, inBlk])
    | (apply AWP.dE hmix [.n 0 [11], .n 1 [12], .n 2 [93, 94], .n 3 [95], .n 4 [4], .n 5 [97], .n 6 [98], .n 7 [99], .n 8 [12], .n 9 [100, 101], .n 10 [102], .n 11 [96, 103]]; (focus kernel_rfl); (focus (simp [go_sem]; exact ⟨rfl, rfl⟩)); try dsimp only [thn, inBlk])
    | fail)
  refine AWP.callE (by simp [go_sem, c7]; exact ⟨rfl, rfl, rfl, rfl, rfl⟩) (by kernel_rfl) ?_
  refine (get_calls (n := o.e.nm) bi k7.b1 (by omega)).mono ?_
  rintro r h8 ⟨rfl, k8⟩
  have k9 := k8.push (.row (en (getR L o.e.nm).1) 34 20 true false)
  have c9 := k9.b2.obj
  refine awpL_restE (by simp [go_sem, ↓allocE]; exact ⟨rfl, rfl⟩) ?_; try dsimp only [thn, inBlk]
  (repeat' first
    | refine AWP.seq ?_
    | refine AWP.block ?_
    | (refine AWP.skip ?_; try dsimp only [thn, inBlk])
    | (refine AWP.exit ?_; try simp only [thn, inBlk, if_true, reduceIte, Nat.reduceEqDiff])
    | (refine AWP.ret ?_; try dsimp only [thn, inBlk])
    | (refine AWP.condT ?_ ?_; (focus (simp [go_sem]; done)))
    | (refine AWP.condF ?_ ?_; (focus (simp [go_sem]; done)))
    | (apply AWP.rE; (focus (simp [go_sem]; exact ⟨rfl, rfl⟩)); try dsimp only [thn, inBlk])
    | (apply AWP.dE hmix [.n 0 [11], .n 1 [12], .n 2 [93, 94], .n 3 [95], .n 4 [4], .n 5 [97], .n 6 [98], .n 7 [99], .n 8 [12], .n 9 [100, 101], .n 10 [102], .n 11 [96, 103]]; (focus kernel_rfl); (focus (simp [go_sem]; exact ⟨rfl, rfl⟩)); try dsimp only [thn, inBlk])
    | fail)
  refine AWP.callE (by simp [go_sem, c9]; exact ⟨rfl, rfl, rfl, rfl, rfl⟩) (by kernel_rfl) ?_
  refine (rget_calls (n := o.e.nm) k9.b3 (by omega)).mono ?_
  rintro r h10 ⟨rfl, k10⟩
  rw [rs.getE bi]
  have k11 := k10.push (.row (en (getR L o.e.nm).1) 34 20 true false)
  refine awpL_restE (by simp [go_sem, ↓allocE]; exact ⟨rfl, rfl⟩) ?_; try dsimp only [thn, inBlk]
  (repeat' first
    | refine AWP.seq ?_
    | refine AWP.block ?_
    | (refine AWP.skip ?_; try dsimp only [thn, inBlk])
    | (refine AWP.exit ?_; try simp only [thn, inBlk, if_true, reduceIte, Nat.reduceEqDiff])
    | (refine AWP.ret ?_; try dsimp only [thn, inBlk])
    | (refine AWP.condT ?_ ?_; (focus (simp [go_sem]; done)))
    | (refine AWP.condF ?_ ?_; (focus (simp [go_sem]; done)))
    | (apply AWP.rE; (focus (simp [go_sem]; exact ⟨rfl, rfl⟩)); try dsimp only [thn, inBlk])
    | (apply AWP.dE hmix [.n 0 [11], .n 1 [12], .n 2 [93, 94], .n 3 [95], .n 4 [4], .n 5 [97], .n 6 [98], .n 7 [99], .n 8 [12], .n 9 [100, 101], .n 10 [102], .n 11 [96, 103]]; (focus kernel_rfl); (focus (simp [go_sem]; exact ⟨rfl, rfl⟩)); try dsimp only [thn, inBlk])
    | fail)
  refine AWP.callE (by simp [go_sem]; exact ⟨rfl, rfl, rfl, rfl, rfl⟩) (by kernel_rfl) ?_
  refine (list_calls bi k11.b3).mono ?_
  rintro r h12 ⟨la, lc, rfl, k12⟩
  have q1 := get_ok bi rs hw o.e.nm
  rw [← rs.same bi] at k12 ⊢
  obtain ⟨v2, k13⟩ := rbs_iff.1 k12.b3
  obtain ⟨va2, vc2, rfl⟩ := k13.b1.os_val
  have c13 := k13.obj
  have d7 := k13.b4.obj
  have d9 := k13.b5.obj
  refine awpL_restE (by simp [go_sem]; exact ⟨rfl, rfl⟩) ?_; try dsimp only [thn, inBlk]
  (repeat' first
    | refine AWP.seq ?_
    | refine AWP.block ?_
    | (refine AWP.skip ?_; try dsimp only [thn, inBlk])
    | (refine AWP.exit ?_; try simp only [thn, inBlk, if_true, reduceIte, Nat.reduceEqDiff])
    | (refine AWP.ret ?_; try dsimp only [thn, inBlk])
    | (refine AWP.condT ?_ ?_; (focus (simp [go_sem, d7, d9, c13, q1]; done)))
    | (refine AWP.condF ?_ ?_; (focus (simp [go_sem, d7, d9, c13, q1]; done)))
    | (apply AWP.rE; (focus (simp [go_sem, d7, d9, c13, q1]; exact ⟨rfl, rfl⟩)); try dsimp only [thn, inBlk])
    | (apply AWP.dE hmix [.n 0 [11], .n 1 [12], .n 2 [93, 94], .n 3 [95], .n 4 [4], .n 5 [97], .n 6 [98], .n 7 [99], .n 8 [12], .n 9 [100, 101], .n 10 [102], .n 11 [96, 103]]; (focus kernel_rfl); (focus (simp [go_sem, d7, d9, c13, q1]; exact ⟨rfl, rfl⟩)); try dsimp only [thn, inBlk])
    | fail)
  have k14 : Own h.asOld h12 (os 34 20 (.slice la es.length lc) es.length ((zap 0 es).map en).flatten :: bsc i L :: cell ib (rrow (.slice va2 es.length vc2)) :: ens (.slice va2 es.length vc2) es :: []) := by
    have e0 : zap 0 es = es := by simp [zap]
    rw [e0]
    (refine Own.sbl ?_ (k13); repeat' first | exact Sbl.nil _ | with_reducible exact Sbl.rfl _ | (apply Sbl.cons) | (apply Sbl.skip) | with_reducible exact Fnd.head _ _ | (apply Fnd.tail))
  refine AWP.loopR [3, 4, 22, 23, 24, 11, 89, 90] (fun m s h' => ∃ (x : Nat), x ≤ es.length ∧ m = es.length - x ∧ s = ⟨111, [(3, ptr i), (4, ptr ib), (22, .slice va s1.length vc), (23, .int .i64 s1.length), (24, .int .i64 j), (11, .slice la es.length lc), (89, .int .i64 es.length), (90, .int .i64 x)]⟩ ∧
      Own h.asOld h' (os 34 20 (.slice la es.length lc) es.length ((zap x es).map en).flatten :: bsc i L :: cell ib (rrow (.slice va2 es.length vc2)) :: ens (.slice va2 es.length vc2) es :: [])) ?_ ?_
  · exact ⟨_, 0, by omega, rfl, by simp [go_sem], k14⟩
  rintro m s hD ⟨x, hx, rfl, rfl, kD⟩
  have zl := zap_len hx
  by_cases hxm : x < es.length
  · have hxm' : (x : Int) < es.length := by omega
    have hx' : es[x]? = some es[x] := List.getElem?_eq_getElem hxm
    obtain ⟨hwx, hnx⟩ := hw _ (List.getElem_mem hxm)
    have w2 : IntKind.i64.wrap ((x : Int) + 1) = ((x + 1 : Nat) : Int) := by rw [wI64 (by omega) (by omega)]; omega
    have kz : Own h.asOld hD (ens (.slice la es.length lc) (zap x es) :: bsc i L :: cell ib (rrow (.slice va2 es.length vc2)) :: ens (.slice va2 es.length vc2) es :: []) := by
      rw [ens, zl]; exact kD
    have hz' : (zap x es)[x]? = some es[x] := by rw [zap_at, hx']
    obtain ⟨bi1, bo1, cc1, e1', sz1, ti1, ro1, a1, a2, a3, a4, _, _⟩ := en_at kz hz' (kd := .i64)
    obtain ⟨bi2, bo2, cc2, e2', sz2, ti2, ro2, b1, b2, b3, b4, _, _⟩ := en_at kz.b3 hx' (kd := .i64)
    obtain ⟨bi3, bo3, cc3, ti3, d1, d2, d3, kE⟩ := Own.os_setR (P := Tryd.prog) (t := 28) Tryd.underlying28 tsz34 kD (j := x) (rs := en zE) hxm en_len (kd := .i64)
    rw [flat_setL en_all (by rw [List.length_map, zl]; exact hxm) en_len, ← List.map_set, zap_set hxm] at kE
    cases a1.symm.trans d1
    cases a2.symm.trans d2
    have cD := kD.b2.obj
    have q2 := en_neq hwx (by omega)
    generalize es[x] = e at *
    (repeat' first
      | refine AWP.seq ?_
      | refine AWP.block ?_
      | (refine AWP.skip ?_; try dsimp only [thn, inBlk])
      | (refine AWP.exit ?_; try simp only [thn, inBlk, if_true, reduceIte, Nat.reduceEqDiff])
      | (refine AWP.ret ?_; try dsimp only [thn, inBlk])
      | (refine AWP.condT ?_ ?_; (focus (simp [go_sem, hxm', cD, a1, a2, a3, a4, b1, b2, b3, b4, q2, ↓buildE, w2]; done)))
      | (refine AWP.condF ?_ ?_; (focus (simp [go_sem, hxm', cD, a1, a2, a3, a4, b1, b2, b3, b4, q2, ↓buildE, w2]; done)))
      | (apply AWP.rE; (focus (simp [go_sem, hxm', cD, a1, a2, a3, a4, b1, b2, b3, b4, q2, ↓buildE, w2]; exact ⟨rfl, rfl⟩)); try dsimp only [thn, inBlk])
      | (apply AWP.dE hmix [.n 0 [11], .n 1 [12], .n 2 [93, 94], .n 3 [95], .n 4 [4], .n 5 [97], .n 6 [98], .n 7 [99], .n 8 [12], .n 9 [100, 101], .n 10 [102], .n 11 [96, 103]]; (focus kernel_rfl); (focus (simp [go_sem, hxm', cD, a1, a2, a3, a4, b1, b2, b3, b4, q2, ↓buildE, w2]; exact ⟨rfl, rfl⟩)); try dsimp only [thn, inBlk])
      | fail)
    exact ⟨es.length - (x + 1), by omega, x + 1, by omega, rfl, by simp [go_sem], kE⟩
  have hxm' : ¬ (x : Int) < es.length := by omega
  (repeat' first
    | refine AWP.seq ?_
    | refine AWP.block ?_
    | (refine AWP.skip ?_; try dsimp only [thn, inBlk])
    | (refine AWP.exit ?_; try simp only [thn, inBlk, if_true, reduceIte, Nat.reduceEqDiff])
    | (refine AWP.ret ?_; try dsimp only [thn, inBlk])
    | (refine AWP.condT ?_ ?_; (focus (simp [go_sem, hxm', w1]; done)))
    | (refine AWP.condF ?_ ?_; (focus (simp [go_sem, hxm', w1]; done)))
    | (apply AWP.rE; (focus (simp [go_sem, hxm', w1]; exact ⟨rfl, rfl⟩)); try dsimp only [thn, inBlk])
    | (apply AWP.dE hmix [.n 0 [11], .n 1 [12], .n 2 [93, 94], .n 3 [95], .n 4 [4], .n 5 [97], .n 6 [98], .n 7 [99], .n 8 [12], .n 9 [100, 101], .n 10 [102], .n 11 [96, 103]]; (focus kernel_rfl); (focus (simp [go_sem, hxm', w1]; exact ⟨rfl, rfl⟩)); try dsimp only [thn, inBlk])
    | fail)
  refine ⟨s1.length - (j + 1), by omega, j + 1, L, es, by omega, rfl, by simp [go_sem], bi, rs, hw, ?_⟩
  have kF : Own h.asOld hD (rbs ib es :: bsc i L :: []) := by
    refine rbs_iff.2 ⟨.slice va2 es.length vc2, ?_⟩
    (refine Own.sbl ?_ (kD); repeat' first | exact Sbl.nil _ | with_reducible exact Sbl.rfl _ | (apply Sbl.cons) | (apply Sbl.skip) | with_reducible exact Fnd.head _ _ | (apply Fnd.tail))
  exact kF.b1
end L09
