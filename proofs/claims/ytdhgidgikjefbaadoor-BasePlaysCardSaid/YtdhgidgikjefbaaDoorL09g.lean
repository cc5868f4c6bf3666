import Derived.Test.YtdhgidgikjefbaaDoorL09f
open Go Ab Go.Proofs
namespace L09
set_option autoImplicit false
set_option linter.unusedSimpArgs false
set_option linter.unusedVariables false

/-! ### Put -/
def goodE (e : En) : Bool := nameB e.nm && decide (1 ≤ e.life) && decide (e.life ≤ 1099511627776) && (e.flags == 0 || e.flags == 1)
def setB (L : BL) (e : En) : BL := match L.findIdx? (fun x => x.1 == e.nm) with
  | some j => L.set j (e.nm, e)
  | none => L ++ [(e.nm, e)]
def putR (L : BL) (e : En) : Int × BL := if goodE e = false then (1, L) else if get L e.nm = none ∧ 16 ≤ L.length then (2, L) else (0, setB L e)
section
variable {O : Old} {h : AHeap} {R : List Chunk} {i m : Nat} {L : BL}
theorem map_setB {e : En} (hI : BI L) (he : e.nm.length ≤ 1000000) (k : Own O h (mpc tx enV m L :: R)) :
    ∃ h', mapUpdW Tryd.prog h 47 (.map (some m)) (tx e.nm) (enV e) = some h' ∧ h'.next = h.next ∧ Own O h' (mpc tx enV m (setB L e) :: R) := by
  cases hg : get L e.nm with
  | none =>
    have hf : L.findIdx? (fun x => x.1 == e.nm) = none := by
      rw [List.findIdx?_eq_none_iff]
      intro x hx; simpa using get_none hg x hx
    have : setB L e = L ++ [(e.nm, e)] := by simp only [setB, hf]
    rw [this]
    exact k.map_put txEnc Tryd.underlying47 he hI.kl hI.nd (get_none hg)
  | some e0 =>
    obtain ⟨j, hj, hf⟩ := get_some hg
    have : setB L e = L.set j (e.nm, e) := by simp only [setB, hf]
    rw [this]
    exact k.map_set txEnc Tryd.underlying47 he hI.kl hI.nd hj
set_option maxHeartbeats 16000000 in
theorem put_calls {e : En} (hI : BI L) (k : Own O h (bsc i L :: R)) (hn : e.nm.length ≤ 900000) :
    ACalls Tryd.prog 11 #[ptr i, enV e] h fun r h' => r = .int .i64 (putR L e).1 ∧ Own O h' (bsc i (putR L e).2 :: R) := by
  refine ACalls.of_awp (args := [ptr i, enV e]) (n := 64) Tryd.func11 rfl rfl (by show 2 ≤ 64; omega) ?_
  obtain ⟨m, k0⟩ := bsc_iff.1 k
  have k1 := k0.push (.row (en e) 34 20 true false)
  have c1 := k1.obj
  (repeat' first
    | refine AWP.seq ?_
    | refine AWP.block ?_
    | (refine AWP.skip ?_; try dsimp only [thn, inBlk])
    | (refine AWP.exit ?_; try simp only [thn, inBlk, if_true, reduceIte, Nat.reduceEqDiff])
    | (refine AWP.ret ?_; try dsimp only [thn, inBlk])
    | (refine AWP.condT ?_ ?_; (focus (simp [go_sem]; done)))
    | (refine AWP.condF ?_ ?_; (focus (simp [go_sem]; done)))
    | (apply AWP.rE; (focus (simp [go_sem]; exact ⟨rfl, rfl⟩)); try dsimp only [thn, inBlk])
    | (apply AWP.dE hmix [.n 0 [0], .n 1 [38], .n 2 [39], .n 3 [40], .n 4 [3], .n 5 [42], .n 6 [41, 43], .n 7 [44], .n 8 [37], .n 9 [37], .n 10 [], .w 11 [7, 45] [], .n 12 [46]]; (focus kernel_rfl); (focus (simp [go_sem]; exact ⟨rfl, rfl⟩)); try dsimp only [thn, inBlk])
    | (apply AWP.dE hmix [.n 0 [0], .n 1 [57], .n 2 [58], .n 3 [59], .n 4 [3], .n 5 [61], .n 6 [3], .w 7 [60, 62, 63] []]; (focus kernel_rfl); (focus (simp [go_sem]; exact ⟨rfl, rfl⟩)); try dsimp only [thn, inBlk])
    | fail)
  refine AWP.callE (by simp [go_sem, c1]; exact ⟨rfl, rfl, rfl, rfl, rfl⟩) (by kernel_rfl) ?_
  refine (parse_calls (l := e.nm) k1 hn).mono ?_
  rintro r hA ⟨⟨a, n, cap, q, rfl⟩, k2⟩
  have k3 := k2.push (.row [.slice a n cap, tx q] 53 2 true false)
  have c3 := k3.b1.obj
  have c4 := k3.b2.obj
  have hmap := k3.b3
  have back : ∀ {hh : AHeap} {L' : BL} {A B : Chunk}, Own O hh (A :: B :: cell i (brow m) :: mpc tx enV m L' :: R) → Own O hh (bsc i L' :: R) := fun kk => bsc_iff.2 ⟨m, kk.tail.tail⟩
  cases hnb : nameB e.nm
  · have e1 : putR L e = (1, L) := by simp [putR, goodE, hnb]
    rw [e1]
    refine awpL_restE (by simp [go_sem]; exact ⟨rfl, rfl⟩) ?_; try dsimp only [thn, inBlk]
    (repeat' first
      | refine AWP.seq ?_
      | refine AWP.block ?_
      | (refine AWP.skip ?_; try dsimp only [thn, inBlk])
      | (refine AWP.exit ?_; try simp only [thn, inBlk, if_true, reduceIte, Nat.reduceEqDiff])
      | (refine AWP.ret ?_; try dsimp only [thn, inBlk])
      | (refine AWP.condT ?_ ?_; (focus (simp [go_sem, c3]; done)))
      | (refine AWP.condF ?_ ?_; (focus (simp [go_sem, c3]; done)))
      | (apply AWP.rE; (focus (simp [go_sem, c3]; exact ⟨rfl, rfl⟩)); try dsimp only [thn, inBlk])
      | (apply AWP.dE hmix [.n 0 [0], .n 1 [38], .n 2 [39], .n 3 [40], .n 4 [3], .n 5 [42], .n 6 [41, 43], .n 7 [44], .n 8 [37], .n 9 [37], .n 10 [], .w 11 [7, 45] [], .n 12 [46]]; (focus kernel_rfl); (focus (simp [go_sem, c3]; exact ⟨rfl, rfl⟩)); try dsimp only [thn, inBlk])
      | (apply AWP.dE hmix [.n 0 [0], .n 1 [57], .n 2 [58], .n 3 [59], .n 4 [3], .n 5 [61], .n 6 [3], .w 7 [60, 62, 63] []]; (focus kernel_rfl); (focus (simp [go_sem, c3]; exact ⟨rfl, rfl⟩)); try dsimp only [thn, inBlk])
      | fail)
    simp [bodyQ, thn, inBlk, resA, resV, go_sem]
    exact back k3
  by_cases h1 : 1 ≤ e.life
  rotate_left
  · have e1 : putR L e = (1, L) := by simp [putR, goodE, hnb, h1]
    rw [e1]
    have h1' : e.life < 1 := by omega
    refine awpL_restE (by simp [go_sem]; exact ⟨rfl, rfl⟩) ?_; try dsimp only [thn, inBlk]
    (repeat' first
      | refine AWP.seq ?_
      | refine AWP.block ?_
      | (refine AWP.skip ?_; try dsimp only [thn, inBlk])
      | (refine AWP.exit ?_; try simp only [thn, inBlk, if_true, reduceIte, Nat.reduceEqDiff])
      | (refine AWP.ret ?_; try dsimp only [thn, inBlk])
      | (refine AWP.condT ?_ ?_; (focus (simp [go_sem, c3, h1']; done)))
      | (refine AWP.condF ?_ ?_; (focus (simp [go_sem, c3, h1']; done)))
      | (apply AWP.rE; (focus (simp [go_sem, c3, h1']; exact ⟨rfl, rfl⟩)); try dsimp only [thn, inBlk])
      | (apply AWP.dE hmix [.n 0 [0], .n 1 [38], .n 2 [39], .n 3 [40], .n 4 [3], .n 5 [42], .n 6 [41, 43], .n 7 [44], .n 8 [37], .n 9 [37], .n 10 [], .w 11 [7, 45] [], .n 12 [46]]; (focus kernel_rfl); (focus (simp [go_sem, c3, h1']; exact ⟨rfl, rfl⟩)); try dsimp only [thn, inBlk])
      | (apply AWP.dE hmix [.n 0 [0], .n 1 [57], .n 2 [58], .n 3 [59], .n 4 [3], .n 5 [61], .n 6 [3], .w 7 [60, 62, 63] []]; (focus kernel_rfl); (focus (simp [go_sem, c3, h1']; exact ⟨rfl, rfl⟩)); try dsimp only [thn, inBlk])
      | fail)
    simp [bodyQ, thn, inBlk, resA, resV, go_sem]
    exact back k3
  have h1' : ¬ e.life < 1 := by omega
  by_cases h2 : e.life ≤ 1099511627776
  rotate_left
  · have e1 : putR L e = (1, L) := by simp [putR, goodE, hnb, h2]
    rw [e1]
    have h2' : 1099511627776 < e.life := by omega
    refine awpL_restE (by simp [go_sem]; exact ⟨rfl, rfl⟩) ?_; try dsimp only [thn, inBlk]
    (repeat' first
      | refine AWP.seq ?_
      | refine AWP.block ?_
      | (refine AWP.skip ?_; try dsimp only [thn, inBlk])
      | (refine AWP.exit ?_; try simp only [thn, inBlk, if_true, reduceIte, Nat.reduceEqDiff])
      | (refine AWP.ret ?_; try dsimp only [thn, inBlk])
      | (refine AWP.condT ?_ ?_; (focus (simp [go_sem, c3, h1', h2']; done)))
      | (refine AWP.condF ?_ ?_; (focus (simp [go_sem, c3, h1', h2']; done)))
      | (apply AWP.rE; (focus (simp [go_sem, c3, h1', h2']; exact ⟨rfl, rfl⟩)); try dsimp only [thn, inBlk])
      | (apply AWP.dE hmix [.n 0 [0], .n 1 [38], .n 2 [39], .n 3 [40], .n 4 [3], .n 5 [42], .n 6 [41, 43], .n 7 [44], .n 8 [37], .n 9 [37], .n 10 [], .w 11 [7, 45] [], .n 12 [46]]; (focus kernel_rfl); (focus (simp [go_sem, c3, h1', h2']; exact ⟨rfl, rfl⟩)); try dsimp only [thn, inBlk])
      | (apply AWP.dE hmix [.n 0 [0], .n 1 [57], .n 2 [58], .n 3 [59], .n 4 [3], .n 5 [61], .n 6 [3], .w 7 [60, 62, 63] []]; (focus kernel_rfl); (focus (simp [go_sem, c3, h1', h2']; exact ⟨rfl, rfl⟩)); try dsimp only [thn, inBlk])
      | fail)
    simp [bodyQ, thn, inBlk, resA, resV, go_sem]
    exact back k3
  have h2' : ¬ 1099511627776 < e.life := by omega
  by_cases h3 : e.flags = 0 ∨ e.flags = 1
  rotate_left
  · have e1 : putR L e = (1, L) := by
      have : e.flags ≠ 0 ∧ e.flags ≠ 1 := by omega
      simp [putR, goodE, hnb, this]
    rw [e1]
    have h3' : (e.flags != 0) = true := by simp; omega
    have h4' : (e.flags != 1) = true := by simp; omega
    refine awpL_restE (by simp [go_sem]; exact ⟨rfl, rfl⟩) ?_; try dsimp only [thn, inBlk]
    (repeat' first
      | refine AWP.seq ?_
      | refine AWP.block ?_
      | (refine AWP.skip ?_; try dsimp only [thn, inBlk])
      | (refine AWP.exit ?_; try simp only [thn, inBlk, if_true, reduceIte, Nat.reduceEqDiff])
      | (refine AWP.ret ?_; try dsimp only [thn, inBlk])
      | (refine AWP.condT ?_ ?_; (focus (simp [go_sem, c3, h1', h2', h3', h4']; done)))
      | (refine AWP.condF ?_ ?_; (focus (simp [go_sem, c3, h1', h2', h3', h4']; done)))
      | (apply AWP.rE; (focus (simp [go_sem, c3, h1', h2', h3', h4']; exact ⟨rfl, rfl⟩)); try dsimp only [thn, inBlk])
      | (apply AWP.dE hmix [.n 0 [0], .n 1 [38], .n 2 [39], .n 3 [40], .n 4 [3], .n 5 [42], .n 6 [41, 43], .n 7 [44], .n 8 [37], .n 9 [37], .n 10 [], .w 11 [7, 45] [], .n 12 [46]]; (focus kernel_rfl); (focus (simp [go_sem, c3, h1', h2', h3', h4']; exact ⟨rfl, rfl⟩)); try dsimp only [thn, inBlk])
      | (apply AWP.dE hmix [.n 0 [0], .n 1 [57], .n 2 [58], .n 3 [59], .n 4 [3], .n 5 [61], .n 6 [3], .w 7 [60, 62, 63] []]; (focus kernel_rfl); (focus (simp [go_sem, c3, h1', h2', h3', h4']; exact ⟨rfl, rfl⟩)); try dsimp only [thn, inBlk])
      | fail)
    simp [bodyQ, thn, inBlk, resA, resV, go_sem]
    exact back k3
  have hgood : goodE e = true := by
    rcases h3 with h3 | h3 <;> simp [goodE, hnb, h1, h2, h3]
  have lk := lk_ok hI hmap (n := e.nm) (by omega)
  generalize hv : (get L e.nm).getD zE = v at lk
  have k5 : Own O (((hA.push (.row [.slice a n cap, tx q] 53 2 true false)).push (.row (en zE) 34 20 true false)).set (hA.next + 1) (.row (en v) 34 20 true false)) (cell (hA.next + 1) (.row (en v) 34 20 true false) :: cell hA.next (.row [.slice a n cap, tx q] 53 2 true false) :: cell h.next (.row (en e) 34 20 true false) :: cell i (brow m) :: mpc tx enV m L :: R) := (k3.push (.row (en zE) 34 20 true false)).set _
  have c5 := k5.b2.obj
  have c6 := k5.b3.obj
  obtain ⟨es, clk, om, oz⟩ := k5.b4.map_obj
  obtain ⟨h9, e9, n9, k9⟩ := map_setB (e := e) hI (by omega) k5.b4
  have back2 : Own O h9 (bsc i (setB L e) :: R) := bsc_iff.2 ⟨m, k9.b4.d2.d2.d2⟩
  have back1 := back k5.tail
  by_cases h4 : e.flags = 0
  · have f1 : (e.flags != 0) = false := by simpa using h4
    refine awpL_restE (by simp [go_sem]; exact ⟨rfl, rfl⟩) ?_; try dsimp only [thn, inBlk]
    by_cases hfull : get L e.nm = none ∧ 16 ≤ L.length
    · have e1 : putR L e = (2, L) := by simp [putR, hgood, hfull]
      rw [e1]
      rw [hfull.1] at lk
      have h16 : (16 : Int) ≤ L.length := by omega
      (repeat' first
        | refine AWP.seq ?_
        | refine AWP.block ?_
        | (refine AWP.skip ?_; try dsimp only [thn, inBlk])
        | (refine AWP.exit ?_; try simp only [thn, inBlk, if_true, reduceIte, Nat.reduceEqDiff])
        | (refine AWP.ret ?_; try dsimp only [thn, inBlk])
        | (refine AWP.condT ?_ ?_; (focus (simp [go_sem, c3, c4, h1', h2', f1, f1, lk, ↓allocE, c5, c6, om, oz, h16]; done)))
        | (refine AWP.condF ?_ ?_; (focus (simp [go_sem, c3, c4, h1', h2', f1, f1, lk, ↓allocE, c5, c6, om, oz, h16]; done)))
        | (apply AWP.rE; (focus (simp [go_sem, c3, c4, h1', h2', f1, f1, lk, ↓allocE, c5, c6, om, oz, h16]; exact ⟨rfl, rfl⟩)); try dsimp only [thn, inBlk])
        | (apply AWP.dE hmix [.n 0 [0], .n 1 [38], .n 2 [39], .n 3 [40], .n 4 [3], .n 5 [42], .n 6 [41, 43], .n 7 [44], .n 8 [37], .n 9 [37], .n 10 [], .w 11 [7, 45] [], .n 12 [46]]; (focus kernel_rfl); (focus (simp [go_sem, c3, c4, h1', h2', f1, f1, lk, ↓allocE, c5, c6, om, oz, h16]; exact ⟨rfl, rfl⟩)); try dsimp only [thn, inBlk])
        | (apply AWP.dE hmix [.n 0 [0], .n 1 [57], .n 2 [58], .n 3 [59], .n 4 [3], .n 5 [61], .n 6 [3], .w 7 [60, 62, 63] []]; (focus kernel_rfl); (focus (simp [go_sem, c3, c4, h1', h2', f1, f1, lk, ↓allocE, c5, c6, om, oz, h16]; exact ⟨rfl, rfl⟩)); try dsimp only [thn, inBlk])
        | fail)
      simp [bodyQ, thn, inBlk, resA, resV, go_sem]
      exact back1
    · have e1 : putR L e = (0, setB L e) := by simp [putR, hgood, hfull]
      rw [e1]
      cases hg : get L e.nm with
      | some e0 =>
        rw [hg] at lk
        (repeat' first
          | refine AWP.seq ?_
          | refine AWP.block ?_
          | (refine AWP.skip ?_; try dsimp only [thn, inBlk])
          | (refine AWP.exit ?_; try simp only [thn, inBlk, if_true, reduceIte, Nat.reduceEqDiff])
          | (refine AWP.ret ?_; try dsimp only [thn, inBlk])
          | (refine AWP.condT ?_ ?_; (focus (simp [go_sem, c3, c4, h1', h2', f1, f1, lk, ↓allocE, c5, c6]; done)))
          | (refine AWP.condF ?_ ?_; (focus (simp [go_sem, c3, c4, h1', h2', f1, f1, lk, ↓allocE, c5, c6]; done)))
          | (apply AWP.rE; (focus (simp [go_sem, c3, c4, h1', h2', f1, f1, lk, ↓allocE, c5, c6]; exact ⟨rfl, rfl⟩)); try dsimp only [thn, inBlk])
          | (apply AWP.dE hmix [.n 0 [0], .n 1 [38], .n 2 [39], .n 3 [40], .n 4 [3], .n 5 [42], .n 6 [41, 43], .n 7 [44], .n 8 [37], .n 9 [37], .n 10 [], .w 11 [7, 45] [], .n 12 [46]]; (focus kernel_rfl); (focus (simp [go_sem, c3, c4, h1', h2', f1, f1, lk, ↓allocE, c5, c6]; exact ⟨rfl, rfl⟩)); try dsimp only [thn, inBlk])
          | (apply AWP.dE hmix [.n 0 [0], .n 1 [57], .n 2 [58], .n 3 [59], .n 4 [3], .n 5 [61], .n 6 [3], .w 7 [60, 62, 63] []]; (focus kernel_rfl); (focus (simp [go_sem, c3, c4, h1', h2', f1, f1, lk, ↓allocE, c5, c6]; exact ⟨rfl, rfl⟩)); try dsimp only [thn, inBlk])
          | fail)
        refine AWP.draw hmix [.n 0 [0], .n 1 [57], .n 2 [58], .n 3 [59], .n 4 [3], .n 5 [61], .n 6 [3], .w 7 [60, 62, 63] []] (by kernel_rfl) ?_
        refine awpD_writeR 7 (by rfl) (by rfl) (by simp [go_sem, c5, c6, e9]; exact ⟨rfl, rfl, rfl⟩) (by rfl) (by rfl) (by simp [go_sem]) (by simp [go_sem, c5, c6, e9]; exact ⟨rfl, rfl⟩) (by simp [still, go_sem, c5, c6, e9]) ?_
        refine awpD_restR (by rfl) (by simp [go_sem]; exact ⟨rfl, rfl, rfl⟩) ?_; try dsimp only [thn, inBlk]
        (repeat' first
          | refine AWP.seq ?_
          | refine AWP.block ?_
          | (refine AWP.skip ?_; try dsimp only [thn, inBlk])
          | (refine AWP.exit ?_; try simp only [thn, inBlk, if_true, reduceIte, Nat.reduceEqDiff])
          | (refine AWP.ret ?_; try dsimp only [thn, inBlk])
          | (refine AWP.condT ?_ ?_; (focus (simp [go_sem]; done)))
          | (refine AWP.condF ?_ ?_; (focus (simp [go_sem]; done)))
          | (apply AWP.rE; (focus (simp [go_sem]; exact ⟨rfl, rfl⟩)); try dsimp only [thn, inBlk])
          | (apply AWP.dE hmix [.n 0 [0], .n 1 [38], .n 2 [39], .n 3 [40], .n 4 [3], .n 5 [42], .n 6 [41, 43], .n 7 [44], .n 8 [37], .n 9 [37], .n 10 [], .w 11 [7, 45] [], .n 12 [46]]; (focus kernel_rfl); (focus (simp [go_sem]; exact ⟨rfl, rfl⟩)); try dsimp only [thn, inBlk])
          | (apply AWP.dE hmix [.n 0 [0], .n 1 [57], .n 2 [58], .n 3 [59], .n 4 [3], .n 5 [61], .n 6 [3], .w 7 [60, 62, 63] []]; (focus kernel_rfl); (focus (simp [go_sem]; exact ⟨rfl, rfl⟩)); try dsimp only [thn, inBlk])
          | fail)
        simp [bodyQ, thn, inBlk, resA, resV, go_sem]
        exact back2
      | none =>
        rw [hg] at lk
        have h16 : ¬ (16 : Int) ≤ L.length := by
          intro h; exact hfull ⟨hg, by omega⟩
        (repeat' first
          | refine AWP.seq ?_
          | refine AWP.block ?_
          | (refine AWP.skip ?_; try dsimp only [thn, inBlk])
          | (refine AWP.exit ?_; try simp only [thn, inBlk, if_true, reduceIte, Nat.reduceEqDiff])
          | (refine AWP.ret ?_; try dsimp only [thn, inBlk])
          | (refine AWP.condT ?_ ?_; (focus (simp [go_sem, c3, c4, h1', h2', f1, f1, lk, ↓allocE, c5, c6, om, oz, h16]; done)))
          | (refine AWP.condF ?_ ?_; (focus (simp [go_sem, c3, c4, h1', h2', f1, f1, lk, ↓allocE, c5, c6, om, oz, h16]; done)))
          | (apply AWP.rE; (focus (simp [go_sem, c3, c4, h1', h2', f1, f1, lk, ↓allocE, c5, c6, om, oz, h16]; exact ⟨rfl, rfl⟩)); try dsimp only [thn, inBlk])
          | (apply AWP.dE hmix [.n 0 [0], .n 1 [38], .n 2 [39], .n 3 [40], .n 4 [3], .n 5 [42], .n 6 [41, 43], .n 7 [44], .n 8 [37], .n 9 [37], .n 10 [], .w 11 [7, 45] [], .n 12 [46]]; (focus kernel_rfl); (focus (simp [go_sem, c3, c4, h1', h2', f1, f1, lk, ↓allocE, c5, c6, om, oz, h16]; exact ⟨rfl, rfl⟩)); try dsimp only [thn, inBlk])
          | (apply AWP.dE hmix [.n 0 [0], .n 1 [57], .n 2 [58], .n 3 [59], .n 4 [3], .n 5 [61], .n 6 [3], .w 7 [60, 62, 63] []]; (focus kernel_rfl); (focus (simp [go_sem, c3, c4, h1', h2', f1, f1, lk, ↓allocE, c5, c6, om, oz, h16]; exact ⟨rfl, rfl⟩)); try dsimp only [thn, inBlk])
          | fail)
        refine AWP.draw hmix [.n 0 [0], .n 1 [57], .n 2 [58], .n 3 [59], .n 4 [3], .n 5 [61], .n 6 [3], .w 7 [60, 62, 63] []] (by kernel_rfl) ?_
        refine awpD_writeR 7 (by rfl) (by rfl) (by simp [go_sem, c5, c6, e9]; exact ⟨rfl, rfl, rfl⟩) (by rfl) (by rfl) (by simp [go_sem]) (by simp [go_sem, c5, c6, e9]; exact ⟨rfl, rfl⟩) (by simp [still, go_sem, c5, c6, e9]) ?_
        refine awpD_restR (by rfl) (by simp [go_sem]; exact ⟨rfl, rfl, rfl⟩) ?_; try dsimp only [thn, inBlk]
        (repeat' first
          | refine AWP.seq ?_
          | refine AWP.block ?_
          | (refine AWP.skip ?_; try dsimp only [thn, inBlk])
          | (refine AWP.exit ?_; try simp only [thn, inBlk, if_true, reduceIte, Nat.reduceEqDiff])
          | (refine AWP.ret ?_; try dsimp only [thn, inBlk])
          | (refine AWP.condT ?_ ?_; (focus (simp [go_sem]; done)))
          | (refine AWP.condF ?_ ?_; (focus (simp [go_sem]; done)))
          | (apply AWP.rE; (focus (simp [go_sem]; exact ⟨rfl, rfl⟩)); try dsimp only [thn, inBlk])
          | (apply AWP.dE hmix [.n 0 [0], .n 1 [38], .n 2 [39], .n 3 [40], .n 4 [3], .n 5 [42], .n 6 [41, 43], .n 7 [44], .n 8 [37], .n 9 [37], .n 10 [], .w 11 [7, 45] [], .n 12 [46]]; (focus kernel_rfl); (focus (simp [go_sem]; exact ⟨rfl, rfl⟩)); try dsimp only [thn, inBlk])
          | (apply AWP.dE hmix [.n 0 [0], .n 1 [57], .n 2 [58], .n 3 [59], .n 4 [3], .n 5 [61], .n 6 [3], .w 7 [60, 62, 63] []]; (focus kernel_rfl); (focus (simp [go_sem]; exact ⟨rfl, rfl⟩)); try dsimp only [thn, inBlk])
          | fail)
        simp [bodyQ, thn, inBlk, resA, resV, go_sem]
        exact back2
  · have f1 : (e.flags != 0) = true := by simpa using h4
    have f2 : (e.flags != 1) = false := by simp; omega
    refine awpL_restE (by simp [go_sem]; exact ⟨rfl, rfl⟩) ?_; try dsimp only [thn, inBlk]
    by_cases hfull : get L e.nm = none ∧ 16 ≤ L.length
    · have e1 : putR L e = (2, L) := by simp [putR, hgood, hfull]
      rw [e1]
      rw [hfull.1] at lk
      have h16 : (16 : Int) ≤ L.length := by omega
      (repeat' first
        | refine AWP.seq ?_
        | refine AWP.block ?_
        | (refine AWP.skip ?_; try dsimp only [thn, inBlk])
        | (refine AWP.exit ?_; try simp only [thn, inBlk, if_true, reduceIte, Nat.reduceEqDiff])
        | (refine AWP.ret ?_; try dsimp only [thn, inBlk])
        | (refine AWP.condT ?_ ?_; (focus (simp [go_sem, c3, c4, h1', h2', f1, f2, lk, ↓allocE, c5, c6, om, oz, h16]; done)))
        | (refine AWP.condF ?_ ?_; (focus (simp [go_sem, c3, c4, h1', h2', f1, f2, lk, ↓allocE, c5, c6, om, oz, h16]; done)))
        | (apply AWP.rE; (focus (simp [go_sem, c3, c4, h1', h2', f1, f2, lk, ↓allocE, c5, c6, om, oz, h16]; exact ⟨rfl, rfl⟩)); try dsimp only [thn, inBlk])
        | (apply AWP.dE hmix [.n 0 [0], .n 1 [38], .n 2 [39], .n 3 [40], .n 4 [3], .n 5 [42], .n 6 [41, 43], .n 7 [44], .n 8 [37], .n 9 [37], .n 10 [], .w 11 [7, 45] [], .n 12 [46]]; (focus kernel_rfl); (focus (simp [go_sem, c3, c4, h1', h2', f1, f2, lk, ↓allocE, c5, c6, om, oz, h16]; exact ⟨rfl, rfl⟩)); try dsimp only [thn, inBlk])
        | (apply AWP.dE hmix [.n 0 [0], .n 1 [57], .n 2 [58], .n 3 [59], .n 4 [3], .n 5 [61], .n 6 [3], .w 7 [60, 62, 63] []]; (focus kernel_rfl); (focus (simp [go_sem, c3, c4, h1', h2', f1, f2, lk, ↓allocE, c5, c6, om, oz, h16]; exact ⟨rfl, rfl⟩)); try dsimp only [thn, inBlk])
        | fail)
      simp [bodyQ, thn, inBlk, resA, resV, go_sem]
      exact back1
    · have e1 : putR L e = (0, setB L e) := by simp [putR, hgood, hfull]
      rw [e1]
      cases hg : get L e.nm with
      | some e0 =>
        rw [hg] at lk
        (repeat' first
          | refine AWP.seq ?_
          | refine AWP.block ?_
          | (refine AWP.skip ?_; try dsimp only [thn, inBlk])
          | (refine AWP.exit ?_; try simp only [thn, inBlk, if_true, reduceIte, Nat.reduceEqDiff])
          | (refine AWP.ret ?_; try dsimp only [thn, inBlk])
          | (refine AWP.condT ?_ ?_; (focus (simp [go_sem, c3, c4, h1', h2', f1, f2, lk, ↓allocE, c5, c6]; done)))
          | (refine AWP.condF ?_ ?_; (focus (simp [go_sem, c3, c4, h1', h2', f1, f2, lk, ↓allocE, c5, c6]; done)))
          | (apply AWP.rE; (focus (simp [go_sem, c3, c4, h1', h2', f1, f2, lk, ↓allocE, c5, c6]; exact ⟨rfl, rfl⟩)); try dsimp only [thn, inBlk])
          | (apply AWP.dE hmix [.n 0 [0], .n 1 [38], .n 2 [39], .n 3 [40], .n 4 [3], .n 5 [42], .n 6 [41, 43], .n 7 [44], .n 8 [37], .n 9 [37], .n 10 [], .w 11 [7, 45] [], .n 12 [46]]; (focus kernel_rfl); (focus (simp [go_sem, c3, c4, h1', h2', f1, f2, lk, ↓allocE, c5, c6]; exact ⟨rfl, rfl⟩)); try dsimp only [thn, inBlk])
          | (apply AWP.dE hmix [.n 0 [0], .n 1 [57], .n 2 [58], .n 3 [59], .n 4 [3], .n 5 [61], .n 6 [3], .w 7 [60, 62, 63] []]; (focus kernel_rfl); (focus (simp [go_sem, c3, c4, h1', h2', f1, f2, lk, ↓allocE, c5, c6]; exact ⟨rfl, rfl⟩)); try dsimp only [thn, inBlk])
          | fail)
        refine AWP.draw hmix [.n 0 [0], .n 1 [57], .n 2 [58], .n 3 [59], .n 4 [3], .n 5 [61], .n 6 [3], .w 7 [60, 62, 63] []] (by kernel_rfl) ?_
        refine awpD_writeR 7 (by rfl) (by rfl) (by simp [go_sem, c5, c6, e9]; exact ⟨rfl, rfl, rfl⟩) (by rfl) (by rfl) (by simp [go_sem]) (by simp [go_sem, c5, c6, e9]; exact ⟨rfl, rfl⟩) (by simp [still, go_sem, c5, c6, e9]) ?_
        refine awpD_restR (by rfl) (by simp [go_sem]; exact ⟨rfl, rfl, rfl⟩) ?_; try dsimp only [thn, inBlk]
        (repeat' first
          | refine AWP.seq ?_
          | refine AWP.block ?_
          | (refine AWP.skip ?_; try dsimp only [thn, inBlk])
          | (refine AWP.exit ?_; try simp only [thn, inBlk, if_true, reduceIte, Nat.reduceEqDiff])
          | (refine AWP.ret ?_; try dsimp only [thn, inBlk])
          | (refine AWP.condT ?_ ?_; (focus (simp [go_sem]; done)))
          | (refine AWP.condF ?_ ?_; (focus (simp [go_sem]; done)))
          | (apply AWP.rE; (focus (simp [go_sem]; exact ⟨rfl, rfl⟩)); try dsimp only [thn, inBlk])
          | (apply AWP.dE hmix [.n 0 [0], .n 1 [38], .n 2 [39], .n 3 [40], .n 4 [3], .n 5 [42], .n 6 [41, 43], .n 7 [44], .n 8 [37], .n 9 [37], .n 10 [], .w 11 [7, 45] [], .n 12 [46]]; (focus kernel_rfl); (focus (simp [go_sem]; exact ⟨rfl, rfl⟩)); try dsimp only [thn, inBlk])
          | (apply AWP.dE hmix [.n 0 [0], .n 1 [57], .n 2 [58], .n 3 [59], .n 4 [3], .n 5 [61], .n 6 [3], .w 7 [60, 62, 63] []]; (focus kernel_rfl); (focus (simp [go_sem]; exact ⟨rfl, rfl⟩)); try dsimp only [thn, inBlk])
          | fail)
        simp [bodyQ, thn, inBlk, resA, resV, go_sem]
        exact back2
      | none =>
        rw [hg] at lk
        have h16 : ¬ (16 : Int) ≤ L.length := by
          intro h; exact hfull ⟨hg, by omega⟩
        (repeat' first
          | refine AWP.seq ?_
          | refine AWP.block ?_
          | (refine AWP.skip ?_; try dsimp only [thn, inBlk])
          | (refine AWP.exit ?_; try simp only [thn, inBlk, if_true, reduceIte, Nat.reduceEqDiff])
          | (refine AWP.ret ?_; try dsimp only [thn, inBlk])
          | (refine AWP.condT ?_ ?_; (focus (simp [go_sem, c3, c4, h1', h2', f1, f2, lk, ↓allocE, c5, c6, om, oz, h16]; done)))
          | (refine AWP.condF ?_ ?_; (focus (simp [go_sem, c3, c4, h1', h2', f1, f2, lk, ↓allocE, c5, c6, om, oz, h16]; done)))
          | (apply AWP.rE; (focus (simp [go_sem, c3, c4, h1', h2', f1, f2, lk, ↓allocE, c5, c6, om, oz, h16]; exact ⟨rfl, rfl⟩)); try dsimp only [thn, inBlk])
          | (apply AWP.dE hmix [.n 0 [0], .n 1 [38], .n 2 [39], .n 3 [40], .n 4 [3], .n 5 [42], .n 6 [41, 43], .n 7 [44], .n 8 [37], .n 9 [37], .n 10 [], .w 11 [7, 45] [], .n 12 [46]]; (focus kernel_rfl); (focus (simp [go_sem, c3, c4, h1', h2', f1, f2, lk, ↓allocE, c5, c6, om, oz, h16]; exact ⟨rfl, rfl⟩)); try dsimp only [thn, inBlk])
          | (apply AWP.dE hmix [.n 0 [0], .n 1 [57], .n 2 [58], .n 3 [59], .n 4 [3], .n 5 [61], .n 6 [3], .w 7 [60, 62, 63] []]; (focus kernel_rfl); (focus (simp [go_sem, c3, c4, h1', h2', f1, f2, lk, ↓allocE, c5, c6, om, oz, h16]; exact ⟨rfl, rfl⟩)); try dsimp only [thn, inBlk])
          | fail)
        refine AWP.draw hmix [.n 0 [0], .n 1 [57], .n 2 [58], .n 3 [59], .n 4 [3], .n 5 [61], .n 6 [3], .w 7 [60, 62, 63] []] (by kernel_rfl) ?_
        refine awpD_writeR 7 (by rfl) (by rfl) (by simp [go_sem, c5, c6, e9]; exact ⟨rfl, rfl, rfl⟩) (by rfl) (by rfl) (by simp [go_sem]) (by simp [go_sem, c5, c6, e9]; exact ⟨rfl, rfl⟩) (by simp [still, go_sem, c5, c6, e9]) ?_
        refine awpD_restR (by rfl) (by simp [go_sem]; exact ⟨rfl, rfl, rfl⟩) ?_; try dsimp only [thn, inBlk]
        (repeat' first
          | refine AWP.seq ?_
          | refine AWP.block ?_
          | (refine AWP.skip ?_; try dsimp only [thn, inBlk])
          | (refine AWP.exit ?_; try simp only [thn, inBlk, if_true, reduceIte, Nat.reduceEqDiff])
          | (refine AWP.ret ?_; try dsimp only [thn, inBlk])
          | (refine AWP.condT ?_ ?_; (focus (simp [go_sem]; done)))
          | (refine AWP.condF ?_ ?_; (focus (simp [go_sem]; done)))
          | (apply AWP.rE; (focus (simp [go_sem]; exact ⟨rfl, rfl⟩)); try dsimp only [thn, inBlk])
          | (apply AWP.dE hmix [.n 0 [0], .n 1 [38], .n 2 [39], .n 3 [40], .n 4 [3], .n 5 [42], .n 6 [41, 43], .n 7 [44], .n 8 [37], .n 9 [37], .n 10 [], .w 11 [7, 45] [], .n 12 [46]]; (focus kernel_rfl); (focus (simp [go_sem]; exact ⟨rfl, rfl⟩)); try dsimp only [thn, inBlk])
          | (apply AWP.dE hmix [.n 0 [0], .n 1 [57], .n 2 [58], .n 3 [59], .n 4 [3], .n 5 [61], .n 6 [3], .w 7 [60, 62, 63] []]; (focus kernel_rfl); (focus (simp [go_sem]; exact ⟨rfl, rfl⟩)); try dsimp only [thn, inBlk])
          | fail)
        simp [bodyQ, thn, inBlk, resA, resV, go_sem]
        exact back2
end
end L09
