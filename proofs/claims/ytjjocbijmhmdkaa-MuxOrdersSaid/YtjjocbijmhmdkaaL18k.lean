import Derived.Test.YtjjocbijmhmdkaaL18j
open Go Ab Go.Proofs
namespace L18
set_option autoImplicit false
set_option linter.unusedSimpArgs false
set_option linter.unusedVariables false
attribute [local irreducible] mcells
def pre (x : Int) : List Value := [.int .i64 x]
abbrev frs (v : Value) (fs : List Fr) : Chunk := brecs pre 30 2 5 v fs
theorem hset_self {o : List Hf} {c : Nat} (h : c < o.length) : o.set c (hg o c) = o := by
  rw [← hg_eq h, List.set_getElem_self]
abbrev pO (b n : Nat) : Value := .pointer (some ⟨b, n * 4, none⟩)
abbrev pI (b n : Nat) : Value := .pointer (some ⟨b, 16 + n * 4, none⟩)
set_option maxHeartbeats 4000000 in
theorem out_calls {O : Old} {h : AHeap} {R : List Chunk} {b : Nat} {o : List Hf} {i : List Ot} (k : Own O h (mux b o i :: R)) (mi : MI o i) :
    ACalls Try.prog 14 #[ptr b] h fun r h' => ∃ a cap, r = .slice a (mout o i).1.length cap ∧ Own O h' (frs (.slice a (mout o i).1.length cap) (mout o i).1 :: mux b (mout o i).2.1 (mout o i).2.2 :: R) := by
  refine ACalls.of_awp (args := [ptr b]) (n := 129) Try.func14 rfl rfl (by show 1 ≤ 129; omega) ?_
  (repeat' first
    | refine AWP.seq ?_
    | refine AWP.block ?_
    | (refine AWP.skip ?_; try dsimp only [thn, inBlk])
    | (refine AWP.exit ?_; try simp only [thn, inBlk, if_true, reduceIte, Nat.reduceEqDiff])
    | (refine AWP.ret ?_; try dsimp only [thn, inBlk])
    | (refine AWP.condT ?_ ?_; (focus (simp [go_sem]; done)))
    | (refine AWP.condF ?_ ?_; (focus (simp [go_sem]; done)))
    | (apply AWP.rE; (focus (simp [go_sem]; exact ⟨rfl, rfl⟩)); try dsimp only [thn, inBlk])
    | (apply AWP.dE hmix [.n 0 [0], .n 1 [3], .n 2 [10], .n 3 [12], .n 4 [13, 11], .n 5 [0], .n 6 [3], .n 7 [15], .n 8 [17], .n 9 [18, 16], .n 10 [14], .n 11 [19]]; (focus kernel_rfl); (focus (simp [go_sem]; exact ⟨rfl, rfl⟩)); try dsimp only [thn, inBlk])
    | (apply AWP.dE hmix [.n 0 [4], .n 1 [33], .n 2 [34], .n 3 [35], .n 4 [36], .n 5 [4], .n 6 [38], .n 7 [39], .n 8 [40], .n 9 [37, 41], .n 10 [42]]; (focus kernel_rfl); (focus (simp [go_sem]; exact ⟨rfl, rfl⟩)); try dsimp only [thn, inBlk])
    | (apply AWP.dE hmix [.n 0 [5], .n 1 [113], .n 2 [114], .n 3 [115], .n 4 [5], .n 5 [117], .n 6 [118], .n 7 [119], .n 8 [116, 120], .n 9 [113], .n 10 [122], .w 11 [123, 121] []]; (focus kernel_rfl); (focus (simp [go_sem]; exact ⟨rfl, rfl⟩)); try dsimp only [thn, inBlk])
    | fail)
  refine AWP.loopR [0, 2, 7] (fun m s h' => ∃ j a cap, j ≤ 4 ∧ m = 4 - j ∧ s = ⟨129, [(0, ptr b), (2, .slice a (moutN o i j).1.length cap), (7, .int .i64 (j : Nat))]⟩ ∧
    Own O h' (frs (.slice a (moutN o i j).1.length cap) (moutN o i j).1 :: mux b (moutN o i j).2.1 (moutN o i j).2.2 :: R)) ?_ ?_
  · exact ⟨_, 0, none, 0, by omega, rfl, by simp [go_sem, moutN], k.brecs_nil 30 2 5⟩
  rintro m s h' ⟨j, a, cap, hj, rfl, rfl, kt⟩
  by_cases hj2 : j < 4
  rotate_left
  · have hj3 : ¬ (j : Int) < 4 := by omega
    obtain rfl : j = 4 := by omega
    change Own O h' (frs (.slice a (mout o i).1.length cap) (mout o i).1 :: mux b (mout o i).2.1 (mout o i).2.2 :: R) at kt
    rw [show moutN o i 4 = mout o i from rfl]
    (repeat' first
      | refine AWP.seq ?_
      | refine AWP.block ?_
      | (refine AWP.skip ?_; try dsimp only [thn, inBlk])
      | (refine AWP.exit ?_; try simp only [thn, inBlk, if_true, reduceIte, Nat.reduceEqDiff])
      | (refine AWP.ret ?_; try dsimp only [thn, inBlk])
      | (refine AWP.condT ?_ ?_; (focus (simp [go_sem, hj3]; done)))
      | (refine AWP.condF ?_ ?_; (focus (simp [go_sem, hj3]; done)))
      | (apply AWP.rE; (focus (simp [go_sem, hj3]; exact ⟨rfl, rfl⟩)); try dsimp only [thn, inBlk])
      | (apply AWP.dE hmix [.n 0 [0], .n 1 [3], .n 2 [10], .n 3 [12], .n 4 [13, 11], .n 5 [0], .n 6 [3], .n 7 [15], .n 8 [17], .n 9 [18, 16], .n 10 [14], .n 11 [19]]; (focus kernel_rfl); (focus (simp [go_sem, hj3]; exact ⟨rfl, rfl⟩)); try dsimp only [thn, inBlk])
      | (apply AWP.dE hmix [.n 0 [4], .n 1 [33], .n 2 [34], .n 3 [35], .n 4 [36], .n 5 [4], .n 6 [38], .n 7 [39], .n 8 [40], .n 9 [37, 41], .n 10 [42]]; (focus kernel_rfl); (focus (simp [go_sem, hj3]; exact ⟨rfl, rfl⟩)); try dsimp only [thn, inBlk])
      | (apply AWP.dE hmix [.n 0 [5], .n 1 [113], .n 2 [114], .n 3 [115], .n 4 [5], .n 5 [117], .n 6 [118], .n 7 [119], .n 8 [116, 120], .n 9 [113], .n 10 [122], .w 11 [123, 121] []]; (focus kernel_rfl); (focus (simp [go_sem, hj3]; exact ⟨rfl, rfl⟩)); try dsimp only [thn, inBlk])
      | fail)
    simp [bodyQ, thn, inBlk, resA, resV, go_sem]
    exact ⟨a, cap, ⟨rfl, rfl⟩, kt⟩
  have hj3 : (j : Int) < 4 := by omega
  obtain ⟨j1, hj1⟩ : ∃ j1, j1 = j + 1 := ⟨_, rfl⟩
  have wj : IntKind.i64.wrap ((j : Int) + 1) = (j1 : Int) := by rw [wI64 (by omega) (by omega)]; omega
  obtain ⟨mi1, hfl⟩ := mi.outN j (by omega)
  have eN : moutN o i j1 = ((moutN o i j).1 ++ (mout1 (moutN o i j).2.1 (moutN o i j).2.2 j).1, (mout1 (moutN o i j).2.1 (moutN o i j).2.2 j).2) := by rw [hj1]; rfl
  generalize hfs : (moutN o i j).1 = fs at *
  generalize ho1 : (moutN o i j).2.1 = o1 at *
  generalize hi1 : (moutN o i j).2.2 = i1 at *
  obtain ⟨x, hx⟩ : ∃ x, x = hg o1 j := ⟨_, rfl⟩
  obtain ⟨y, hy⟩ : ∃ y, y = og i1 j := ⟨_, rfl⟩
  (repeat' first
    | refine AWP.seq ?_
    | refine AWP.block ?_
    | (refine AWP.skip ?_; try dsimp only [thn, inBlk])
    | (refine AWP.exit ?_; try simp only [thn, inBlk, if_true, reduceIte, Nat.reduceEqDiff])
    | (refine AWP.ret ?_; try dsimp only [thn, inBlk])
    | (refine AWP.condT ?_ ?_; (focus (simp [go_sem, hj3]; done)))
    | (refine AWP.condF ?_ ?_; (focus (simp [go_sem, hj3]; done)))
    | (apply AWP.rE; (focus (simp [go_sem, hj3]; exact ⟨rfl, rfl⟩)); try dsimp only [thn, inBlk])
    | (apply AWP.dE hmix [.n 0 [0], .n 1 [3], .n 2 [10], .n 3 [12], .n 4 [13, 11], .n 5 [0], .n 6 [3], .n 7 [15], .n 8 [17], .n 9 [18, 16], .n 10 [14], .n 11 [19]]; (focus kernel_rfl); (focus (simp [go_sem, hj3]; exact ⟨rfl, rfl⟩)); try dsimp only [thn, inBlk])
    | (apply AWP.dE hmix [.n 0 [4], .n 1 [33], .n 2 [34], .n 3 [35], .n 4 [36], .n 5 [4], .n 6 [38], .n 7 [39], .n 8 [40], .n 9 [37, 41], .n 10 [42]]; (focus kernel_rfl); (focus (simp [go_sem, hj3]; exact ⟨rfl, rfl⟩)); try dsimp only [thn, inBlk])
    | (apply AWP.dE hmix [.n 0 [5], .n 1 [113], .n 2 [114], .n 3 [115], .n 4 [5], .n 5 [117], .n 6 [118], .n 7 [119], .n 8 [116, 120], .n 9 [113], .n 10 [122], .w 11 [123, 121] []]; (focus kernel_rfl); (focus (simp [go_sem, hj3]; exact ⟨rfl, rfl⟩)); try dsimp only [thn, inBlk])
    | fail)
  refine AWP.loopR [0, 2, 3, 4, 5, 7] (fun m s h'' => ∃ (w : List UInt8) (cr : Int) (fs2 : List Fr) (a : Option Addr) (cap : Nat), m = w.length ∧ s = ⟨129, [(0, ptr b), (2, .slice a fs2.length cap), (3, .int .i64 (j : Nat)), (4, pO b j), (5, pI b j), (7, .int .i64 (j : Nat))]⟩ ∧
    fs ++ (mcut j x.wait x.credit).1 = fs2 ++ (mcut j w cr).1 ∧ (mcut j x.wait x.credit).2 = (mcut j w cr).2 ∧ 0 ≤ cr ∧ cr ≤ 1024 ∧ w.length ≤ 4096 ∧ fs2.length + w.length ≤ fs.length + 4096 ∧
    Own O h'' (frs (.slice a fs2.length cap) fs2 :: mux b (o1.set j ⟨w, cr, x.closed, x.told⟩) i1 :: R)) ?_ ?_
  · have hs : o1.set j ⟨x.wait, x.credit, x.closed, x.told⟩ = o1 := by
      rw [hx]; exact hset_self (by rw [mi1.ol]; exact hj2)
    have h1 := mi1.w j
    have h2 := mi1.cr0 j
    have h3 := mi1.cr1 j
    rw [← hx] at h1 h2 h3
    exact ⟨_, x.wait, x.credit, fs, a, cap, rfl, by simp [go_sem], rfl, rfl, h2, h3, h1, by omega, by rw [hs]; exact kt⟩
  rintro m s h2 ⟨w, cr, fs2, a2, cap2, rfl, rfl, hw1, hw2, hc0, hc1, hwl, hfl2, k2⟩
  obtain ⟨xx, hxx⟩ : ∃ xx : Hf, xx = ⟨w, cr, x.closed, x.told⟩ := ⟨_, rfl⟩
  rw [← hxx] at k2
  obtain ⟨ws, us, k4, ko⟩ := mux_outO hj2 k2.b1
  have g := k4.fo hj2
  rw [hg_set (by rw [mi1.ol]; exact hj2)] at ko
  have fb := g.b
  have fl := m_len k4
  have f0 := g.o0
  have f1 := g.o1
  have f2 := g.o2
  have f3 := g.o3
  have g1 := g.i1
  have g2 := g.i2
  rw [hg_set (by rw [mi1.ol]; exact hj2)] at f0 f1 f2 f3
  rw [show xx.wait = w by rw [hxx]] at f0
  rw [show xx.credit = cr by rw [hxx]] at f1
  rw [show xx.closed = x.closed by rw [hxx]] at f2
  rw [show xx.told = x.told by rw [hxx]] at f3
  rw [← hy] at g1 g2
  have c1 := ko.tail.obj
  by_cases hgo : 0 < w.length ∧ 0 < cr
  · obtain ⟨q1, q2⟩ := hgo
    have q1' : (0 : Int) < (w.length : Int) := by omega
    obtain ⟨n, hn⟩ : ∃ n, n = min (min w.length cr.toNat) 512 := ⟨_, rfl⟩
    have hm : foldA min2A (.int .i64 (w.length : Int)) [.int .i64 cr, .int .i64 512] = some (.int .i64 (n : Int)) := by
      simp [foldA, min2A]
      split <;> split <;> omega
    have pc := fun (hh : AHeap) (kk : Own O hh (hsub xx (pg ws j) :: cell b (mrow (o1.set j xx) ws i1 us) :: ((hs (o1.set j xx) ws).eraseIdx j ++ (os_ i1 us ++ (frs (.slice a2 fs2.length cap2) fs2 :: R))))) => (kk.ob_bytes).piece (P := Try.prog) (t := 28) (e := 5) Try.underlying28 tsz5 (lo := 0) (hi := n) (by omega) (by rw [hxx]; simp only; omega) (l := none) (u := some (.int .i64 (n : Int))) (.inl ⟨rfl, rfl⟩) (.inr ⟨.i64, rfl⟩)
    rw [show xx.wait = w by rw [hxx]] at pc
    have s1 := (pc _ ko).1
    have tl : (w.take n).length = n := by simp; omega
    (repeat' first
      | refine AWP.seq ?_
      | refine AWP.block ?_
      | (refine AWP.skip ?_; try dsimp only [thn, inBlk])
      | (refine AWP.exit ?_; try simp only [thn, inBlk, if_true, reduceIte, Nat.reduceEqDiff])
      | (refine AWP.ret ?_; try dsimp only [thn, inBlk])
      | (refine AWP.condT ?_ ?_; (focus (simp [go_sem, c1, fb, fl, f0, f1, q1, q1', q2, hm]; done)))
      | (refine AWP.condF ?_ ?_; (focus (simp [go_sem, c1, fb, fl, f0, f1, q1, q1', q2, hm]; done)))
      | (apply AWP.rE; (focus (simp [go_sem, c1, fb, fl, f0, f1, q1, q1', q2, hm]; exact ⟨rfl, rfl⟩)); try dsimp only [thn, inBlk])
      | (apply AWP.dE hmix [.n 0 [0], .n 1 [3], .n 2 [10], .n 3 [12], .n 4 [13, 11], .n 5 [0], .n 6 [3], .n 7 [15], .n 8 [17], .n 9 [18, 16], .n 10 [14], .n 11 [19]]; (focus kernel_rfl); (focus (simp [go_sem, c1, fb, fl, f0, f1, q1, q1', q2, hm]; exact ⟨rfl, rfl⟩)); try dsimp only [thn, inBlk])
      | (apply AWP.dE hmix [.n 0 [4], .n 1 [33], .n 2 [34], .n 3 [35], .n 4 [36], .n 5 [4], .n 6 [38], .n 7 [39], .n 8 [40], .n 9 [37, 41], .n 10 [42]]; (focus kernel_rfl); (focus (simp [go_sem, c1, fb, fl, f0, f1, q1, q1', q2, hm]; exact ⟨rfl, rfl⟩)); try dsimp only [thn, inBlk])
      | (apply AWP.dE hmix [.n 0 [5], .n 1 [113], .n 2 [114], .n 3 [115], .n 4 [5], .n 5 [117], .n 6 [118], .n 7 [119], .n 8 [116, 120], .n 9 [113], .n 10 [122], .w 11 [123, 121] []]; (focus kernel_rfl); (focus (simp [go_sem, c1, fb, fl, f0, f1, q1, q1', q2, hm]; exact ⟨rfl, rfl⟩)); try dsimp only [thn, inBlk])
      | fail)
    refine AWP.callE (by simp [go_sem, c1, fb, fl, f0, s1]; exact ⟨rfl, rfl, rfl, rfl, rfl⟩) (by kernel_rfl) ?_
    refine (clone_calls (bs := w.take n) ko (fun hh kk => (pc hh kk).2) (by omega)).mono ?_
    rintro r h3 ⟨a3, cap3, rfl, k3⟩
    have k3b : Own O h3 (frs (.slice a2 fs2.length cap2) fs2 :: ob 5 (.slice a3 (w.take n).length cap3) (w.take n) :: (hsub xx (pg ws j) :: cell b (mrow (o1.set j xx) ws i1 us) :: ((hs (o1.set j xx) ws).eraseIdx j ++ (os_ i1 us ++ R)))) := by
      refine k3.perm ?_
      have e := perm_in (frs (.slice a2 fs2.length cap2) fs2) ((hs (o1.set j xx) ws).eraseIdx j) (os_ i1 us) R
      exact ((((e.symm.cons _).cons _).cons _).trans (List.perm_middle (l₁ := [ob 5 (.slice a3 (w.take n).length cap3) (w.take n), hsub xx (pg ws j), cell b (mrow (o1.set j xx) ws i1 us)])))
    obtain ⟨a4, cap4, h4, e4, k5⟩ := k3b.brecs_app (P := Try.prog) (t := 39) (xt := 39) (fs := fs2) (x := (j : Int)) (bs := w.take n) (bc := cap3) (i := h3.next) Try.underlying39 tsz30 tby30 tz30 nI39 (by omega) rfl rfl rfl rfl (by omega)
    rw [tl] at e4 ⊢
    simp only [pre, List.cons_append, List.nil_append] at e4
    have c4 := k5.tail.tail.obj
    have hdl : (w.drop n).length = w.length - n := by simp
    refine awpL_restE (by simp [go_sem, e4, c4]; exact ⟨rfl, rfl⟩) ?_; try dsimp only [thn, inBlk]
    obtain ⟨v6, s6, k6⟩ := (k5.b1).ob_slice (P := Try.prog) (t := 28) Try.underlying28 tsz5 (lo := n) (hi := xx.wait.length) (by rw [hxx]; simp only; omega) (Nat.le_refl _) (l := some (.int .i64 (n : Int))) (u := none) (.inr ⟨.i64, rfl⟩) (.inl ⟨rfl, rfl⟩)
    rw [List.take_length, show xx.wait = w by rw [hxx]] at k6
    rw [show xx.wait = w by rw [hxx]] at s6
    obtain ⟨a6, c6, rfl⟩ := k6.os_val
    have cm6 := k6.tail.tail.obj
    have e7 := so0 k4 hj2 (w.drop n) (a := a6) (cap := c6) rfl
    rw [hg_set (by rw [mi1.ol]; exact hj2), show xx.credit = cr by rw [hxx], show xx.closed = x.closed by rw [hxx], show xx.told = x.told by rw [hxx], List.set_set] at e7
    generalize hdl2 : (w.drop n).length = dl at *
    have k4b := k4.setO (c := j) ⟨w.drop n, cr, x.closed, x.told⟩ (a6, c6)
    rw [List.set_set] at k4b
    have k7 := k6.b2.set (mrow (o1.set j ⟨w.drop n, cr, x.closed, x.told⟩) (ws.set j (a6, c6)) i1 us)
    (repeat' first
      | refine AWP.seq ?_
      | refine AWP.block ?_
      | (refine AWP.skip ?_; try dsimp only [thn, inBlk])
      | (refine AWP.exit ?_; try simp only [thn, inBlk, if_true, reduceIte, Nat.reduceEqDiff])
      | (refine AWP.ret ?_; try dsimp only [thn, inBlk])
      | (refine AWP.condT ?_ ?_; (focus (simp [go_sem, cm6, fb, fl, f0, s6, e7]; done)))
      | (refine AWP.condF ?_ ?_; (focus (simp [go_sem, cm6, fb, fl, f0, s6, e7]; done)))
      | (apply AWP.rE; (focus (simp [go_sem, cm6, fb, fl, f0, s6, e7]; exact ⟨rfl, rfl⟩)); try dsimp only [thn, inBlk])
      | (apply AWP.dE hmix [.n 0 [0], .n 1 [3], .n 2 [10], .n 3 [12], .n 4 [13, 11], .n 5 [0], .n 6 [3], .n 7 [15], .n 8 [17], .n 9 [18, 16], .n 10 [14], .n 11 [19]]; (focus kernel_rfl); (focus (simp [go_sem, cm6, fb, fl, f0, s6, e7]; exact ⟨rfl, rfl⟩)); try dsimp only [thn, inBlk])
      | (apply AWP.dE hmix [.n 0 [4], .n 1 [33], .n 2 [34], .n 3 [35], .n 4 [36], .n 5 [4], .n 6 [38], .n 7 [39], .n 8 [40], .n 9 [37, 41], .n 10 [42]]; (focus kernel_rfl); (focus (simp [go_sem, cm6, fb, fl, f0, s6, e7]; exact ⟨rfl, rfl⟩)); try dsimp only [thn, inBlk])
      | (apply AWP.dE hmix [.n 0 [5], .n 1 [113], .n 2 [114], .n 3 [115], .n 4 [5], .n 5 [117], .n 6 [118], .n 7 [119], .n 8 [116, 120], .n 9 [113], .n 10 [122], .w 11 [123, 121] []]; (focus kernel_rfl); (focus (simp [go_sem, cm6, fb, fl, f0, s6, e7]; exact ⟨rfl, rfl⟩)); try dsimp only [thn, inBlk])
      | fail)
    have fl2 := m_len k4b
    have f1b := (k4b.fo hj2).o1
    have e8 := so1 k4b hj2 (cr - (n : Int))
    rw [hg_set (by rw [mi1.ol]; exact hj2)] at f1b e8
    rw [List.set_set] at e8
    have c8 := k7.obj
    have wc : IntKind.i64.wrap (cr - (n : Int)) = cr - (n : Int) := wI64 (by omega) (by omega)
    have k8 := k7.set (mrow (o1.set j ⟨w.drop n, cr - (n : Int), x.closed, x.told⟩) (ws.set j (a6, c6)) i1 us)
    (repeat' first
      | refine AWP.seq ?_
      | refine AWP.block ?_
      | (refine AWP.skip ?_; try dsimp only [thn, inBlk])
      | (refine AWP.exit ?_; try simp only [thn, inBlk, if_true, reduceIte, Nat.reduceEqDiff])
      | (refine AWP.ret ?_; try dsimp only [thn, inBlk])
      | (refine AWP.condT ?_ ?_; (focus (simp [go_sem, c8, fb, fl2, f1b, e8, wc]; done)))
      | (refine AWP.condF ?_ ?_; (focus (simp [go_sem, c8, fb, fl2, f1b, e8, wc]; done)))
      | (apply AWP.rE; (focus (simp [go_sem, c8, fb, fl2, f1b, e8, wc]; exact ⟨rfl, rfl⟩)); try dsimp only [thn, inBlk])
      | (apply AWP.dE hmix [.n 0 [0], .n 1 [3], .n 2 [10], .n 3 [12], .n 4 [13, 11], .n 5 [0], .n 6 [3], .n 7 [15], .n 8 [17], .n 9 [18, 16], .n 10 [14], .n 11 [19]]; (focus kernel_rfl); (focus (simp [go_sem, c8, fb, fl2, f1b, e8, wc]; exact ⟨rfl, rfl⟩)); try dsimp only [thn, inBlk])
      | (apply AWP.dE hmix [.n 0 [4], .n 1 [33], .n 2 [34], .n 3 [35], .n 4 [36], .n 5 [4], .n 6 [38], .n 7 [39], .n 8 [40], .n 9 [37, 41], .n 10 [42]]; (focus kernel_rfl); (focus (simp [go_sem, c8, fb, fl2, f1b, e8, wc]; exact ⟨rfl, rfl⟩)); try dsimp only [thn, inBlk])
      | (apply AWP.dE hmix [.n 0 [5], .n 1 [113], .n 2 [114], .n 3 [115], .n 4 [5], .n 5 [117], .n 6 [118], .n 7 [119], .n 8 [116, 120], .n 9 [113], .n 10 [122], .w 11 [123, 121] []]; (focus kernel_rfl); (focus (simp [go_sem, c8, fb, fl2, f1b, e8, wc]; exact ⟨rfl, rfl⟩)); try dsimp only [thn, inBlk])
      | fail)
    have k9 := k8.b1
    rw [← hdl2] at k9
    have k10 := mux_inO2 hj2 k4 ⟨w.drop n, cr - (n : Int), x.closed, x.told⟩ (a6, c6) (by rw [List.set_set]; exact k9)
    rw [List.set_set] at k10
    have st := mcut_step (ch := j) ⟨q1, q2⟩ hn
    refine ⟨dl, by omega, w.drop n, cr - n, fs2 ++ [((j : Int), w.take n)], a4, cap4, hdl2.symm, by simp [go_sem], ?_, ?_, by omega, by omega, by omega, by simp; omega, ?_⟩
    · rw [hw1, st]; simp
    · rw [hw2, st]
    · rw [List.length_append]; exact k10.b1
  have hst := mcut_stop (ch := j) hgo
  rw [hst] at hw1 hw2
  simp only [List.append_nil] at hw1
  obtain ⟨e, he⟩ : ∃ e, e = mend x w := ⟨_, rfl⟩
  obtain ⟨E, hE⟩ : ∃ E : List Fr, E = if e then [toldF 2 j 0] else [] := ⟨_, rfl⟩
  have hEl : E.length ≤ 1 := by rw [hE]; split <;> simp
  obtain ⟨o3, ho3⟩ : ∃ o3, o3 = o1.set j ⟨w, cr, x.closed, x.told || e⟩ := ⟨_, rfl⟩
  obtain ⟨fs3, hfs3⟩ : ∃ fs3, fs3 = fs2 ++ E := ⟨_, rfl⟩
  have hfl3 : fs3.length ≤ fs2.length + 1 := by rw [hfs3]; simp; omega
  have eM : mout1 o1 i1 j = ((mcut j x.wait x.credit).1 ++ (E ++ (if 0 < y.untold then [toldF 1 j y.untold.toNat] else [])), o3, if 0 < y.untold then i1.set j ⟨y.come, y.room + y.untold, 0, y.ended⟩ else i1) := by
    simp only [mout1, ← hx, ← hy, hw2, ← he, hE, ho3]
  have eN1 : (moutN o i j1).1 = fs3 ++ (if 0 < y.untold then [toldF 1 j y.untold.toNat] else []) := by
    rw [hfs3, eN, eM, ← hw1]; simp [List.append_assoc]
  have eN2 : (moutN o i j1).2.1 = o3 := by rw [eN, eM]
  have eN3 : (moutN o i j1).2.2 = if 0 < y.untold then i1.set j ⟨y.come, y.room + y.untold, 0, y.ended⟩ else i1 := by rw [eN, eM]
  have same : o1.set j ⟨w, cr, x.closed, x.told⟩ = o1.set j xx := by rw [hxx]
  have ho3f : e = false → o3 = o1.set j xx := fun h => by rw [ho3, h, hxx]; simp
  have hus : y.untold ≤ 1024 ∧ 0 ≤ y.untold ∧ 0 ≤ y.room ∧ y.room ≤ 1024 := by
    have h1 := mi1.sum j hj2
    have h2 := mi1.u0 j
    have h3 := mi1.r0 j
    rw [← hy] at h1 h2 h3
    omega
  by_cases q1 : 0 < w.length
  · have q1' : (0 : Int) < (w.length : Int) := by omega
    have q2 : ¬ 0 < cr := fun h => hgo ⟨q1, h⟩
    have q3 : ((w.length : Int) == 0) = false := by simp; intro h; rw [h] at q1; simp at q1
    have hef : e = false := by
      rw [he, mend]
      have : w.isEmpty = false := by cases w <;> simp at q1 ⊢
      rw [this]; simp
    (repeat' first
      | refine AWP.seq ?_
      | refine AWP.block ?_
      | (refine AWP.skip ?_; try dsimp only [thn, inBlk])
      | (refine AWP.exit ?_; try simp only [thn, inBlk, if_true, reduceIte, Nat.reduceEqDiff])
      | (refine AWP.ret ?_; try dsimp only [thn, inBlk])
      | (refine AWP.condT ?_ ?_; (focus (simp [go_sem, c1, fb, fl, f0, f1, q1, q1', q2]; done)))
      | (refine AWP.condF ?_ ?_; (focus (simp [go_sem, c1, fb, fl, f0, f1, q1, q1', q2]; done)))
      | (apply AWP.rE; (focus (simp [go_sem, c1, fb, fl, f0, f1, q1, q1', q2]; exact ⟨rfl, rfl⟩)); try dsimp only [thn, inBlk])
      | (apply AWP.dE hmix [.n 0 [0], .n 1 [3], .n 2 [10], .n 3 [12], .n 4 [13, 11], .n 5 [0], .n 6 [3], .n 7 [15], .n 8 [17], .n 9 [18, 16], .n 10 [14], .n 11 [19]]; (focus kernel_rfl); (focus (simp [go_sem, c1, fb, fl, f0, f1, q1, q1', q2]; exact ⟨rfl, rfl⟩)); try dsimp only [thn, inBlk])
      | (apply AWP.dE hmix [.n 0 [4], .n 1 [33], .n 2 [34], .n 3 [35], .n 4 [36], .n 5 [4], .n 6 [38], .n 7 [39], .n 8 [40], .n 9 [37, 41], .n 10 [42]]; (focus kernel_rfl); (focus (simp [go_sem, c1, fb, fl, f0, f1, q1, q1', q2]; exact ⟨rfl, rfl⟩)); try dsimp only [thn, inBlk])
      | (apply AWP.dE hmix [.n 0 [5], .n 1 [113], .n 2 [114], .n 3 [115], .n 4 [5], .n 5 [117], .n 6 [118], .n 7 [119], .n 8 [116, 120], .n 9 [113], .n 10 [122], .w 11 [123, 121] []]; (focus kernel_rfl); (focus (simp [go_sem, c1, fb, fl, f0, f1, q1, q1', q2]; exact ⟨rfl, rfl⟩)); try dsimp only [thn, inBlk])
      | fail)
    refine AWP.cut2 [0, 2, 3, 5, 7] (fun s h'' => ∃ a cap, s = ⟨129, [(0, ptr b), (2, .slice a fs3.length cap), (3, .int .i64 (j : Nat)), (5, pI b j), (7, .int .i64 (j : Nat))]⟩ ∧ Own O h'' (frs (.slice a fs3.length cap) fs3 :: mux b o3 i1 :: R)) ?_ ?_
    · have hE0 : E = [] := by rw [hE, hef]; rfl
      rw [ho3f hef, hfs3, hE0, List.append_nil]
      cases hcl : x.closed <;> rw [hcl] at f2
      · (repeat' first
          | refine AWP.seq ?_
          | refine AWP.block ?_
          | (refine AWP.skip ?_; try dsimp only [thn, inBlk])
          | (refine AWP.exit ?_; try simp only [thn, inBlk, if_true, reduceIte, Nat.reduceEqDiff])
          | (refine AWP.ret ?_; try dsimp only [thn, inBlk])
          | (refine AWP.condT ?_ ?_; (focus (simp [go_sem, c1, fb, fl, f2]; done)))
          | (refine AWP.condF ?_ ?_; (focus (simp [go_sem, c1, fb, fl, f2]; done)))
          | (apply AWP.rE; (focus (simp [go_sem, c1, fb, fl, f2]; exact ⟨rfl, rfl⟩)); try dsimp only [thn, inBlk])
          | (apply AWP.dE hmix [.n 0 [0], .n 1 [3], .n 2 [10], .n 3 [12], .n 4 [13, 11], .n 5 [0], .n 6 [3], .n 7 [15], .n 8 [17], .n 9 [18, 16], .n 10 [14], .n 11 [19]]; (focus kernel_rfl); (focus (simp [go_sem, c1, fb, fl, f2]; exact ⟨rfl, rfl⟩)); try dsimp only [thn, inBlk])
          | (apply AWP.dE hmix [.n 0 [4], .n 1 [33], .n 2 [34], .n 3 [35], .n 4 [36], .n 5 [4], .n 6 [38], .n 7 [39], .n 8 [40], .n 9 [37, 41], .n 10 [42]]; (focus kernel_rfl); (focus (simp [go_sem, c1, fb, fl, f2]; exact ⟨rfl, rfl⟩)); try dsimp only [thn, inBlk])
          | (apply AWP.dE hmix [.n 0 [5], .n 1 [113], .n 2 [114], .n 3 [115], .n 4 [5], .n 5 [117], .n 6 [118], .n 7 [119], .n 8 [116, 120], .n 9 [113], .n 10 [122], .w 11 [123, 121] []]; (focus kernel_rfl); (focus (simp [go_sem, c1, fb, fl, f2]; exact ⟨rfl, rfl⟩)); try dsimp only [thn, inBlk])
          | fail)
        exact ⟨a2, cap2, by simp [go_sem], k2⟩
      cases hto : x.told <;> rw [hto] at f3
      · (repeat' first
          | refine AWP.seq ?_
          | refine AWP.block ?_
          | (refine AWP.skip ?_; try dsimp only [thn, inBlk])
          | (refine AWP.exit ?_; try simp only [thn, inBlk, if_true, reduceIte, Nat.reduceEqDiff])
          | (refine AWP.ret ?_; try dsimp only [thn, inBlk])
          | (refine AWP.condT ?_ ?_; (focus (simp [go_sem, c1, fb, fl, f0, f2, f3, q3]; done)))
          | (refine AWP.condF ?_ ?_; (focus (simp [go_sem, c1, fb, fl, f0, f2, f3, q3]; done)))
          | (apply AWP.rE; (focus (simp [go_sem, c1, fb, fl, f0, f2, f3, q3]; exact ⟨rfl, rfl⟩)); try dsimp only [thn, inBlk])
          | (apply AWP.dE hmix [.n 0 [0], .n 1 [3], .n 2 [10], .n 3 [12], .n 4 [13, 11], .n 5 [0], .n 6 [3], .n 7 [15], .n 8 [17], .n 9 [18, 16], .n 10 [14], .n 11 [19]]; (focus kernel_rfl); (focus (simp [go_sem, c1, fb, fl, f0, f2, f3, q3]; exact ⟨rfl, rfl⟩)); try dsimp only [thn, inBlk])
          | (apply AWP.dE hmix [.n 0 [4], .n 1 [33], .n 2 [34], .n 3 [35], .n 4 [36], .n 5 [4], .n 6 [38], .n 7 [39], .n 8 [40], .n 9 [37, 41], .n 10 [42]]; (focus kernel_rfl); (focus (simp [go_sem, c1, fb, fl, f0, f2, f3, q3]; exact ⟨rfl, rfl⟩)); try dsimp only [thn, inBlk])
          | (apply AWP.dE hmix [.n 0 [5], .n 1 [113], .n 2 [114], .n 3 [115], .n 4 [5], .n 5 [117], .n 6 [118], .n 7 [119], .n 8 [116, 120], .n 9 [113], .n 10 [122], .w 11 [123, 121] []]; (focus kernel_rfl); (focus (simp [go_sem, c1, fb, fl, f0, f2, f3, q3]; exact ⟨rfl, rfl⟩)); try dsimp only [thn, inBlk])
          | fail)
        exact ⟨a2, cap2, by simp [go_sem], k2⟩
      · (repeat' first
          | refine AWP.seq ?_
          | refine AWP.block ?_
          | (refine AWP.skip ?_; try dsimp only [thn, inBlk])
          | (refine AWP.exit ?_; try simp only [thn, inBlk, if_true, reduceIte, Nat.reduceEqDiff])
          | (refine AWP.ret ?_; try dsimp only [thn, inBlk])
          | (refine AWP.condT ?_ ?_; (focus (simp [go_sem, c1, fb, fl, f2, f3]; done)))
          | (refine AWP.condF ?_ ?_; (focus (simp [go_sem, c1, fb, fl, f2, f3]; done)))
          | (apply AWP.rE; (focus (simp [go_sem, c1, fb, fl, f2, f3]; exact ⟨rfl, rfl⟩)); try dsimp only [thn, inBlk])
          | (apply AWP.dE hmix [.n 0 [0], .n 1 [3], .n 2 [10], .n 3 [12], .n 4 [13, 11], .n 5 [0], .n 6 [3], .n 7 [15], .n 8 [17], .n 9 [18, 16], .n 10 [14], .n 11 [19]]; (focus kernel_rfl); (focus (simp [go_sem, c1, fb, fl, f2, f3]; exact ⟨rfl, rfl⟩)); try dsimp only [thn, inBlk])
          | (apply AWP.dE hmix [.n 0 [4], .n 1 [33], .n 2 [34], .n 3 [35], .n 4 [36], .n 5 [4], .n 6 [38], .n 7 [39], .n 8 [40], .n 9 [37, 41], .n 10 [42]]; (focus kernel_rfl); (focus (simp [go_sem, c1, fb, fl, f2, f3]; exact ⟨rfl, rfl⟩)); try dsimp only [thn, inBlk])
          | (apply AWP.dE hmix [.n 0 [5], .n 1 [113], .n 2 [114], .n 3 [115], .n 4 [5], .n 5 [117], .n 6 [118], .n 7 [119], .n 8 [116, 120], .n 9 [113], .n 10 [122], .w 11 [123, 121] []]; (focus kernel_rfl); (focus (simp [go_sem, c1, fb, fl, f2, f3]; exact ⟨rfl, rfl⟩)); try dsimp only [thn, inBlk])
          | fail)
        exact ⟨a2, cap2, by simp [go_sem], k2⟩
    rintro s h5 ⟨a5, cap5, rfl, k5⟩
    obtain ⟨ws5, us5, k45, ko5⟩ := mux_outI hj2 k5.b1
    have g5 := k45.fo hj2
    have fl5 := m_len k45
    have r5 := g5.i1
    have u5 := g5.i2
    have d5 := ko5.tail.obj
    rw [← hy] at r5 u5
    by_cases hu : 0 < y.untold
    rotate_left
    · rw [if_neg hu] at eN1 eN3
      rw [List.append_nil] at eN1
      (repeat' first
        | refine AWP.seq ?_
        | refine AWP.block ?_
        | (refine AWP.skip ?_; try dsimp only [thn, inBlk])
        | (refine AWP.exit ?_; try simp only [thn, inBlk, if_true, reduceIte, Nat.reduceEqDiff])
        | (refine AWP.ret ?_; try dsimp only [thn, inBlk])
        | (refine AWP.condT ?_ ?_; (focus (simp [go_sem, d5, fb, fl5, u5, hu, wj]; done)))
        | (refine AWP.condF ?_ ?_; (focus (simp [go_sem, d5, fb, fl5, u5, hu, wj]; done)))
        | (apply AWP.rE; (focus (simp [go_sem, d5, fb, fl5, u5, hu, wj]; exact ⟨rfl, rfl⟩)); try dsimp only [thn, inBlk])
        | (apply AWP.dE hmix [.n 0 [0], .n 1 [3], .n 2 [10], .n 3 [12], .n 4 [13, 11], .n 5 [0], .n 6 [3], .n 7 [15], .n 8 [17], .n 9 [18, 16], .n 10 [14], .n 11 [19]]; (focus kernel_rfl); (focus (simp [go_sem, d5, fb, fl5, u5, hu, wj]; exact ⟨rfl, rfl⟩)); try dsimp only [thn, inBlk])
        | (apply AWP.dE hmix [.n 0 [4], .n 1 [33], .n 2 [34], .n 3 [35], .n 4 [36], .n 5 [4], .n 6 [38], .n 7 [39], .n 8 [40], .n 9 [37, 41], .n 10 [42]]; (focus kernel_rfl); (focus (simp [go_sem, d5, fb, fl5, u5, hu, wj]; exact ⟨rfl, rfl⟩)); try dsimp only [thn, inBlk])
        | (apply AWP.dE hmix [.n 0 [5], .n 1 [113], .n 2 [114], .n 3 [115], .n 4 [5], .n 5 [117], .n 6 [118], .n 7 [119], .n 8 [116, 120], .n 9 [113], .n 10 [122], .w 11 [123, 121] []]; (focus kernel_rfl); (focus (simp [go_sem, d5, fb, fl5, u5, hu, wj]; exact ⟨rfl, rfl⟩)); try dsimp only [thn, inBlk])
        | fail)
      exact ⟨4 - j1, by omega, j1, a5, cap5, by omega, rfl, by rw [eN1]; simp [go_sem], by rw [eN1, eN2, eN3]; exact k5⟩
    · rw [if_pos hu] at eN1 eN3
      obtain ⟨un, hun⟩ : ∃ un : Nat, y.untold = un := ⟨y.untold.toNat, by omega⟩
      (repeat' first
        | refine AWP.seq ?_
        | refine AWP.block ?_
        | (refine AWP.skip ?_; try dsimp only [thn, inBlk])
        | (refine AWP.exit ?_; try simp only [thn, inBlk, if_true, reduceIte, Nat.reduceEqDiff])
        | (refine AWP.ret ?_; try dsimp only [thn, inBlk])
        | (refine AWP.condT ?_ ?_; (focus (simp [go_sem, d5, fb, fl5, u5, hu]; done)))
        | (refine AWP.condF ?_ ?_; (focus (simp [go_sem, d5, fb, fl5, u5, hu]; done)))
        | (apply AWP.rE; (focus (simp [go_sem, d5, fb, fl5, u5, hu]; exact ⟨rfl, rfl⟩)); try dsimp only [thn, inBlk])
        | (apply AWP.dE hmix [.n 0 [0], .n 1 [3], .n 2 [10], .n 3 [12], .n 4 [13, 11], .n 5 [0], .n 6 [3], .n 7 [15], .n 8 [17], .n 9 [18, 16], .n 10 [14], .n 11 [19]]; (focus kernel_rfl); (focus (simp [go_sem, d5, fb, fl5, u5, hu]; exact ⟨rfl, rfl⟩)); try dsimp only [thn, inBlk])
        | (apply AWP.dE hmix [.n 0 [4], .n 1 [33], .n 2 [34], .n 3 [35], .n 4 [36], .n 5 [4], .n 6 [38], .n 7 [39], .n 8 [40], .n 9 [37, 41], .n 10 [42]]; (focus kernel_rfl); (focus (simp [go_sem, d5, fb, fl5, u5, hu]; exact ⟨rfl, rfl⟩)); try dsimp only [thn, inBlk])
        | (apply AWP.dE hmix [.n 0 [5], .n 1 [113], .n 2 [114], .n 3 [115], .n 4 [5], .n 5 [117], .n 6 [118], .n 7 [119], .n 8 [116, 120], .n 9 [113], .n 10 [122], .w 11 [123, 121] []]; (focus kernel_rfl); (focus (simp [go_sem, d5, fb, fl5, u5, hu]; exact ⟨rfl, rfl⟩)); try dsimp only [thn, inBlk])
        | fail)
      refine AWP.callE (by simp [go_sem, d5, fb, fl5, u5]; exact ⟨rfl, rfl, rfl, rfl, rfl⟩) (by kernel_rfl) ?_
      rw [hun]
      refine (told_calls (op := 1) (ch := j) (n := un) k5 (by omega) (by omega) (by omega)).mono ?_
      rintro r h6 ⟨a6, rfl, k6⟩
      obtain ⟨a7, cap7, h7, e7, k7⟩ := k6.b1.brecs_app (P := Try.prog) (t := 39) (xt := 39) (fs := fs3) (x := (4 : Int)) (bs := (toldF 1 j un).2) (ba := a6) (bc := 4) (i := h6.next) Try.underlying39 tsz30 tby30 tz30 nI39 (by omega) rfl rfl rfl rfl (by omega)
      simp only [pre, List.cons_append, List.nil_append] at e7
      rw [show (toldF 1 j un).2.length = 4 from rfl] at e7
      refine awpL_restE (by simp [go_sem, e7]; exact ⟨rfl, rfl⟩) ?_; try dsimp only [thn, inBlk]
      obtain ⟨ws8, us8, k48, ko8⟩ := mux_outI hj2 k7.b1
      have g8 := k48.fo hj2
      have fl8 := m_len k48
      have r8 := g8.i1
      have u8 := g8.i2
      have d8 := ko8.tail.obj
      rw [← hy] at r8 u8
      have wr : IntKind.i64.wrap (y.room + y.untold) = y.room + y.untold := wI64 (by omega) (by omega)
      have e8 := si1 k48 hj2 (y.room + y.untold)
      rw [← hy] at e8
      have k9 := ko8.b1.set (mrow o3 ws8 (i1.set j ⟨y.come, y.room + y.untold, y.untold, y.ended⟩) us8)
      have k48b := k48.setI (c := j) ⟨y.come, y.room + y.untold, y.untold, y.ended⟩ (pg us8 j)
      rw [pset (by rw [k48.u]; exact hj2)] at k48b
      have fl9 := m_len k48b
      have e9 := si2 k48b hj2 0
      rw [og_set (by rw [mi1.il]; exact hj2), List.set_set] at e9
      have d9 := k9.obj
      have k10 := k9.set (mrow o3 ws8 (i1.set j ⟨y.come, y.room + y.untold, 0, y.ended⟩) us8)
      rw [hun] at u8
      rw [hun] at wr e8 k9 k10 e9 d9 fl9
      (repeat' first
        | refine AWP.seq ?_
        | refine AWP.block ?_
        | (refine AWP.skip ?_; try dsimp only [thn, inBlk])
        | (refine AWP.exit ?_; try simp only [thn, inBlk, if_true, reduceIte, Nat.reduceEqDiff])
        | (refine AWP.ret ?_; try dsimp only [thn, inBlk])
        | (refine AWP.condT ?_ ?_; (focus (simp [go_sem, d8, fb, fl8, r8, u8, wr, e8, d9, fl9, e9, wj]; done)))
        | (refine AWP.condF ?_ ?_; (focus (simp [go_sem, d8, fb, fl8, r8, u8, wr, e8, d9, fl9, e9, wj]; done)))
        | (apply AWP.rE; (focus (simp [go_sem, d8, fb, fl8, r8, u8, wr, e8, d9, fl9, e9, wj]; exact ⟨rfl, rfl⟩)); try dsimp only [thn, inBlk])
        | (apply AWP.dE hmix [.n 0 [0], .n 1 [3], .n 2 [10], .n 3 [12], .n 4 [13, 11], .n 5 [0], .n 6 [3], .n 7 [15], .n 8 [17], .n 9 [18, 16], .n 10 [14], .n 11 [19]]; (focus kernel_rfl); (focus (simp [go_sem, d8, fb, fl8, r8, u8, wr, e8, d9, fl9, e9, wj]; exact ⟨rfl, rfl⟩)); try dsimp only [thn, inBlk])
        | (apply AWP.dE hmix [.n 0 [4], .n 1 [33], .n 2 [34], .n 3 [35], .n 4 [36], .n 5 [4], .n 6 [38], .n 7 [39], .n 8 [40], .n 9 [37, 41], .n 10 [42]]; (focus kernel_rfl); (focus (simp [go_sem, d8, fb, fl8, r8, u8, wr, e8, d9, fl9, e9, wj]; exact ⟨rfl, rfl⟩)); try dsimp only [thn, inBlk])
        | (apply AWP.dE hmix [.n 0 [5], .n 1 [113], .n 2 [114], .n 3 [115], .n 4 [5], .n 5 [117], .n 6 [118], .n 7 [119], .n 8 [116, 120], .n 9 [113], .n 10 [122], .w 11 [123, 121] []]; (focus kernel_rfl); (focus (simp [go_sem, d8, fb, fl8, r8, u8, wr, e8, d9, fl9, e9, wj]; exact ⟨rfl, rfl⟩)); try dsimp only [thn, inBlk])
        | fail)
      have k11 := mux_inI' hj2 k48 ⟨y.come, y.room + un, 0, y.ended⟩ (by rw [hy]) k10.b1
      refine ⟨4 - j1, by omega, j1, a7, cap7, by omega, rfl, ?_, ?_⟩
      · rw [eN1]; simp [go_sem]
      · rw [eN1, eN2, eN3, hun]
        rw [List.length_append, show ((un : Nat) : Int).toNat = un from rfl]
        exact k11.b1
  obtain rfl : w = [] := by
    cases w with
    | nil => rfl
    | cons c w => simp at q1
  have hef : e = (x.closed && !x.told) := by rw [he, mend]; simp
  (repeat' first
    | refine AWP.seq ?_
    | refine AWP.block ?_
    | (refine AWP.skip ?_; try dsimp only [thn, inBlk])
    | (refine AWP.exit ?_; try simp only [thn, inBlk, if_true, reduceIte, Nat.reduceEqDiff])
    | (refine AWP.ret ?_; try dsimp only [thn, inBlk])
    | (refine AWP.condT ?_ ?_; (focus (simp [go_sem, c1, fb, fl, f0]; done)))
    | (refine AWP.condF ?_ ?_; (focus (simp [go_sem, c1, fb, fl, f0]; done)))
    | (apply AWP.rE; (focus (simp [go_sem, c1, fb, fl, f0]; exact ⟨rfl, rfl⟩)); try dsimp only [thn, inBlk])
    | (apply AWP.dE hmix [.n 0 [0], .n 1 [3], .n 2 [10], .n 3 [12], .n 4 [13, 11], .n 5 [0], .n 6 [3], .n 7 [15], .n 8 [17], .n 9 [18, 16], .n 10 [14], .n 11 [19]]; (focus kernel_rfl); (focus (simp [go_sem, c1, fb, fl, f0]; exact ⟨rfl, rfl⟩)); try dsimp only [thn, inBlk])
    | (apply AWP.dE hmix [.n 0 [4], .n 1 [33], .n 2 [34], .n 3 [35], .n 4 [36], .n 5 [4], .n 6 [38], .n 7 [39], .n 8 [40], .n 9 [37, 41], .n 10 [42]]; (focus kernel_rfl); (focus (simp [go_sem, c1, fb, fl, f0]; exact ⟨rfl, rfl⟩)); try dsimp only [thn, inBlk])
    | (apply AWP.dE hmix [.n 0 [5], .n 1 [113], .n 2 [114], .n 3 [115], .n 4 [5], .n 5 [117], .n 6 [118], .n 7 [119], .n 8 [116, 120], .n 9 [113], .n 10 [122], .w 11 [123, 121] []]; (focus kernel_rfl); (focus (simp [go_sem, c1, fb, fl, f0]; exact ⟨rfl, rfl⟩)); try dsimp only [thn, inBlk])
    | fail)
  refine AWP.cut2 [0, 2, 3, 5, 7] (fun s h'' => ∃ a cap, s = ⟨129, [(0, ptr b), (2, .slice a fs3.length cap), (3, .int .i64 (j : Nat)), (5, pI b j), (7, .int .i64 (j : Nat))]⟩ ∧ Own O h'' (frs (.slice a fs3.length cap) fs3 :: mux b o3 i1 :: R)) ?_ ?_
  · cases hcl : x.closed <;> rw [hcl] at f2
    · have hef : e = false := by rw [hef, hcl]; rfl
      have hE0 : E = [] := by rw [hE, hef]; rfl
      rw [ho3f hef, hfs3, hE0, List.append_nil]
      (repeat' first
        | refine AWP.seq ?_
        | refine AWP.block ?_
        | (refine AWP.skip ?_; try dsimp only [thn, inBlk])
        | (refine AWP.exit ?_; try simp only [thn, inBlk, if_true, reduceIte, Nat.reduceEqDiff])
        | (refine AWP.ret ?_; try dsimp only [thn, inBlk])
        | (refine AWP.condT ?_ ?_; (focus (simp [go_sem, c1, fb, fl, f2]; done)))
        | (refine AWP.condF ?_ ?_; (focus (simp [go_sem, c1, fb, fl, f2]; done)))
        | (apply AWP.rE; (focus (simp [go_sem, c1, fb, fl, f2]; exact ⟨rfl, rfl⟩)); try dsimp only [thn, inBlk])
        | (apply AWP.dE hmix [.n 0 [0], .n 1 [3], .n 2 [10], .n 3 [12], .n 4 [13, 11], .n 5 [0], .n 6 [3], .n 7 [15], .n 8 [17], .n 9 [18, 16], .n 10 [14], .n 11 [19]]; (focus kernel_rfl); (focus (simp [go_sem, c1, fb, fl, f2]; exact ⟨rfl, rfl⟩)); try dsimp only [thn, inBlk])
        | (apply AWP.dE hmix [.n 0 [4], .n 1 [33], .n 2 [34], .n 3 [35], .n 4 [36], .n 5 [4], .n 6 [38], .n 7 [39], .n 8 [40], .n 9 [37, 41], .n 10 [42]]; (focus kernel_rfl); (focus (simp [go_sem, c1, fb, fl, f2]; exact ⟨rfl, rfl⟩)); try dsimp only [thn, inBlk])
        | (apply AWP.dE hmix [.n 0 [5], .n 1 [113], .n 2 [114], .n 3 [115], .n 4 [5], .n 5 [117], .n 6 [118], .n 7 [119], .n 8 [116, 120], .n 9 [113], .n 10 [122], .w 11 [123, 121] []]; (focus kernel_rfl); (focus (simp [go_sem, c1, fb, fl, f2]; exact ⟨rfl, rfl⟩)); try dsimp only [thn, inBlk])
        | fail)
      exact ⟨a2, cap2, by simp [go_sem], k2⟩
    cases hto : x.told <;> rw [hto] at f3
    rotate_left
    · have hef : e = false := by rw [hef, hto]; simp
      have hE0 : E = [] := by rw [hE, hef]; rfl
      rw [ho3f hef, hfs3, hE0, List.append_nil]
      (repeat' first
        | refine AWP.seq ?_
        | refine AWP.block ?_
        | (refine AWP.skip ?_; try dsimp only [thn, inBlk])
        | (refine AWP.exit ?_; try simp only [thn, inBlk, if_true, reduceIte, Nat.reduceEqDiff])
        | (refine AWP.ret ?_; try dsimp only [thn, inBlk])
        | (refine AWP.condT ?_ ?_; (focus (simp [go_sem, c1, fb, fl, f2, f3]; done)))
        | (refine AWP.condF ?_ ?_; (focus (simp [go_sem, c1, fb, fl, f2, f3]; done)))
        | (apply AWP.rE; (focus (simp [go_sem, c1, fb, fl, f2, f3]; exact ⟨rfl, rfl⟩)); try dsimp only [thn, inBlk])
        | (apply AWP.dE hmix [.n 0 [0], .n 1 [3], .n 2 [10], .n 3 [12], .n 4 [13, 11], .n 5 [0], .n 6 [3], .n 7 [15], .n 8 [17], .n 9 [18, 16], .n 10 [14], .n 11 [19]]; (focus kernel_rfl); (focus (simp [go_sem, c1, fb, fl, f2, f3]; exact ⟨rfl, rfl⟩)); try dsimp only [thn, inBlk])
        | (apply AWP.dE hmix [.n 0 [4], .n 1 [33], .n 2 [34], .n 3 [35], .n 4 [36], .n 5 [4], .n 6 [38], .n 7 [39], .n 8 [40], .n 9 [37, 41], .n 10 [42]]; (focus kernel_rfl); (focus (simp [go_sem, c1, fb, fl, f2, f3]; exact ⟨rfl, rfl⟩)); try dsimp only [thn, inBlk])
        | (apply AWP.dE hmix [.n 0 [5], .n 1 [113], .n 2 [114], .n 3 [115], .n 4 [5], .n 5 [117], .n 6 [118], .n 7 [119], .n 8 [116, 120], .n 9 [113], .n 10 [122], .w 11 [123, 121] []]; (focus kernel_rfl); (focus (simp [go_sem, c1, fb, fl, f2, f3]; exact ⟨rfl, rfl⟩)); try dsimp only [thn, inBlk])
        | fail)
      exact ⟨a2, cap2, by simp [go_sem], k2⟩
    have hef : e = true := by rw [hef, hcl, hto]; rfl
    have hE1 : E = [toldF 2 j 0] := by rw [hE, hef]; rfl
    have ho3t : o3 = o1.set j ⟨[], cr, x.closed, true⟩ := by rw [ho3, hef]; simp
    (repeat' first
      | refine AWP.seq ?_
      | refine AWP.block ?_
      | (refine AWP.skip ?_; try dsimp only [thn, inBlk])
      | (refine AWP.exit ?_; try simp only [thn, inBlk, if_true, reduceIte, Nat.reduceEqDiff])
      | (refine AWP.ret ?_; try dsimp only [thn, inBlk])
      | (refine AWP.condT ?_ ?_; (focus (simp [go_sem, c1, fb, fl, f0, f2, f3]; done)))
      | (refine AWP.condF ?_ ?_; (focus (simp [go_sem, c1, fb, fl, f0, f2, f3]; done)))
      | (apply AWP.rE; (focus (simp [go_sem, c1, fb, fl, f0, f2, f3]; exact ⟨rfl, rfl⟩)); try dsimp only [thn, inBlk])
      | (apply AWP.dE hmix [.n 0 [0], .n 1 [3], .n 2 [10], .n 3 [12], .n 4 [13, 11], .n 5 [0], .n 6 [3], .n 7 [15], .n 8 [17], .n 9 [18, 16], .n 10 [14], .n 11 [19]]; (focus kernel_rfl); (focus (simp [go_sem, c1, fb, fl, f0, f2, f3]; exact ⟨rfl, rfl⟩)); try dsimp only [thn, inBlk])
      | (apply AWP.dE hmix [.n 0 [4], .n 1 [33], .n 2 [34], .n 3 [35], .n 4 [36], .n 5 [4], .n 6 [38], .n 7 [39], .n 8 [40], .n 9 [37, 41], .n 10 [42]]; (focus kernel_rfl); (focus (simp [go_sem, c1, fb, fl, f0, f2, f3]; exact ⟨rfl, rfl⟩)); try dsimp only [thn, inBlk])
      | (apply AWP.dE hmix [.n 0 [5], .n 1 [113], .n 2 [114], .n 3 [115], .n 4 [5], .n 5 [117], .n 6 [118], .n 7 [119], .n 8 [116, 120], .n 9 [113], .n 10 [122], .w 11 [123, 121] []]; (focus kernel_rfl); (focus (simp [go_sem, c1, fb, fl, f0, f2, f3]; exact ⟨rfl, rfl⟩)); try dsimp only [thn, inBlk])
      | fail)
    refine AWP.callE (by simp [go_sem]; exact ⟨rfl, rfl, rfl, rfl, rfl⟩) (by kernel_rfl) ?_
    refine (told_calls (op := 2) (ch := j) (n := 0) k2 (by omega) (by omega) (by omega)).mono ?_
    rintro r h6 ⟨a6, rfl, k6⟩
    obtain ⟨a7, cap7, h7, e7, k7⟩ := k6.b1.brecs_app (P := Try.prog) (t := 39) (xt := 39) (fs := fs2) (x := (4 : Int)) (bs := (toldF 2 j 0).2) (ba := a6) (bc := 4) (i := h6.next) Try.underlying39 tsz30 tby30 tz30 nI39 (by omega) rfl rfl rfl rfl (by omega)
    simp only [pre, List.cons_append, List.nil_append] at e7
    rw [show (toldF 2 j 0).2.length = 4 from rfl] at e7
    refine awpL_restE (by simp [go_sem, e7]; exact ⟨rfl, rfl⟩) ?_; try dsimp only [thn, inBlk]
    obtain ⟨ws8, us8, k48, ko8⟩ := mux_outO hj2 k7.b1
    have g8 := k48.fo hj2
    have fl8 := m_len k48
    have d8 := ko8.tail.obj
    have e8 := so3 k48 hj2 true
    rw [hg_set (by rw [mi1.ol]; exact hj2)] at e8 ko8
    rw [show xx.wait = [] by rw [hxx], show xx.credit = cr by rw [hxx], show xx.closed = x.closed by rw [hxx], List.set_set, ← ho3t] at e8
    have k9 := ko8.b1.set (mrow o3 ws8 i1 us8)
    (repeat' first
      | refine AWP.seq ?_
      | refine AWP.block ?_
      | (refine AWP.skip ?_; try dsimp only [thn, inBlk])
      | (refine AWP.exit ?_; try simp only [thn, inBlk, if_true, reduceIte, Nat.reduceEqDiff])
      | (refine AWP.ret ?_; try dsimp only [thn, inBlk])
      | (refine AWP.condT ?_ ?_; (focus (simp [go_sem, d8, fb, fl8, e8]; done)))
      | (refine AWP.condF ?_ ?_; (focus (simp [go_sem, d8, fb, fl8, e8]; done)))
      | (apply AWP.rE; (focus (simp [go_sem, d8, fb, fl8, e8]; exact ⟨rfl, rfl⟩)); try dsimp only [thn, inBlk])
      | (apply AWP.dE hmix [.n 0 [0], .n 1 [3], .n 2 [10], .n 3 [12], .n 4 [13, 11], .n 5 [0], .n 6 [3], .n 7 [15], .n 8 [17], .n 9 [18, 16], .n 10 [14], .n 11 [19]]; (focus kernel_rfl); (focus (simp [go_sem, d8, fb, fl8, e8]; exact ⟨rfl, rfl⟩)); try dsimp only [thn, inBlk])
      | (apply AWP.dE hmix [.n 0 [4], .n 1 [33], .n 2 [34], .n 3 [35], .n 4 [36], .n 5 [4], .n 6 [38], .n 7 [39], .n 8 [40], .n 9 [37, 41], .n 10 [42]]; (focus kernel_rfl); (focus (simp [go_sem, d8, fb, fl8, e8]; exact ⟨rfl, rfl⟩)); try dsimp only [thn, inBlk])
      | (apply AWP.dE hmix [.n 0 [5], .n 1 [113], .n 2 [114], .n 3 [115], .n 4 [5], .n 5 [117], .n 6 [118], .n 7 [119], .n 8 [116, 120], .n 9 [113], .n 10 [122], .w 11 [123, 121] []]; (focus kernel_rfl); (focus (simp [go_sem, d8, fb, fl8, e8]; exact ⟨rfl, rfl⟩)); try dsimp only [thn, inBlk])
      | fail)
    have k11 := mux_inO' hj2 k48 ⟨[], cr, x.closed, true⟩ (by rw [hg_set (by rw [mi1.ol]; exact hj2), hxx]) (by rw [List.set_set, ← ho3t, hg_set (by rw [mi1.ol]; exact hj2)]; exact k9.b1)
    rw [List.set_set, ← ho3t] at k11
    refine ⟨a7, cap7, ?_, ?_⟩
    · rw [hfs3, hE1]; simp [go_sem]
    · rw [hfs3, hE1, List.length_append]
      exact k11.b1
  rintro s h5 ⟨a5, cap5, rfl, k5⟩
  obtain ⟨ws5, us5, k45, ko5⟩ := mux_outI hj2 k5.b1
  have g5 := k45.fo hj2
  have fl5 := m_len k45
  have r5 := g5.i1
  have u5 := g5.i2
  have d5 := ko5.tail.obj
  rw [← hy] at r5 u5
  by_cases hu : 0 < y.untold
  rotate_left
  · rw [if_neg hu] at eN1 eN3
    rw [List.append_nil] at eN1
    (repeat' first
      | refine AWP.seq ?_
      | refine AWP.block ?_
      | (refine AWP.skip ?_; try dsimp only [thn, inBlk])
      | (refine AWP.exit ?_; try simp only [thn, inBlk, if_true, reduceIte, Nat.reduceEqDiff])
      | (refine AWP.ret ?_; try dsimp only [thn, inBlk])
      | (refine AWP.condT ?_ ?_; (focus (simp [go_sem, d5, fb, fl5, u5, hu, wj]; done)))
      | (refine AWP.condF ?_ ?_; (focus (simp [go_sem, d5, fb, fl5, u5, hu, wj]; done)))
      | (apply AWP.rE; (focus (simp [go_sem, d5, fb, fl5, u5, hu, wj]; exact ⟨rfl, rfl⟩)); try dsimp only [thn, inBlk])
      | (apply AWP.dE hmix [.n 0 [0], .n 1 [3], .n 2 [10], .n 3 [12], .n 4 [13, 11], .n 5 [0], .n 6 [3], .n 7 [15], .n 8 [17], .n 9 [18, 16], .n 10 [14], .n 11 [19]]; (focus kernel_rfl); (focus (simp [go_sem, d5, fb, fl5, u5, hu, wj]; exact ⟨rfl, rfl⟩)); try dsimp only [thn, inBlk])
      | (apply AWP.dE hmix [.n 0 [4], .n 1 [33], .n 2 [34], .n 3 [35], .n 4 [36], .n 5 [4], .n 6 [38], .n 7 [39], .n 8 [40], .n 9 [37, 41], .n 10 [42]]; (focus kernel_rfl); (focus (simp [go_sem, d5, fb, fl5, u5, hu, wj]; exact ⟨rfl, rfl⟩)); try dsimp only [thn, inBlk])
      | (apply AWP.dE hmix [.n 0 [5], .n 1 [113], .n 2 [114], .n 3 [115], .n 4 [5], .n 5 [117], .n 6 [118], .n 7 [119], .n 8 [116, 120], .n 9 [113], .n 10 [122], .w 11 [123, 121] []]; (focus kernel_rfl); (focus (simp [go_sem, d5, fb, fl5, u5, hu, wj]; exact ⟨rfl, rfl⟩)); try dsimp only [thn, inBlk])
      | fail)
    exact ⟨4 - j1, by omega, j1, a5, cap5, by omega, rfl, by rw [eN1]; simp [go_sem], by rw [eN1, eN2, eN3]; exact k5⟩
  · rw [if_pos hu] at eN1 eN3
    obtain ⟨un, hun⟩ : ∃ un : Nat, y.untold = un := ⟨y.untold.toNat, by omega⟩
    (repeat' first
      | refine AWP.seq ?_
      | refine AWP.block ?_
      | (refine AWP.skip ?_; try dsimp only [thn, inBlk])
      | (refine AWP.exit ?_; try simp only [thn, inBlk, if_true, reduceIte, Nat.reduceEqDiff])
      | (refine AWP.ret ?_; try dsimp only [thn, inBlk])
      | (refine AWP.condT ?_ ?_; (focus (simp [go_sem, d5, fb, fl5, u5, hu]; done)))
      | (refine AWP.condF ?_ ?_; (focus (simp [go_sem, d5, fb, fl5, u5, hu]; done)))
      | (apply AWP.rE; (focus (simp [go_sem, d5, fb, fl5, u5, hu]; exact ⟨rfl, rfl⟩)); try dsimp only [thn, inBlk])
      | (apply AWP.dE hmix [.n 0 [0], .n 1 [3], .n 2 [10], .n 3 [12], .n 4 [13, 11], .n 5 [0], .n 6 [3], .n 7 [15], .n 8 [17], .n 9 [18, 16], .n 10 [14], .n 11 [19]]; (focus kernel_rfl); (focus (simp [go_sem, d5, fb, fl5, u5, hu]; exact ⟨rfl, rfl⟩)); try dsimp only [thn, inBlk])
      | (apply AWP.dE hmix [.n 0 [4], .n 1 [33], .n 2 [34], .n 3 [35], .n 4 [36], .n 5 [4], .n 6 [38], .n 7 [39], .n 8 [40], .n 9 [37, 41], .n 10 [42]]; (focus kernel_rfl); (focus (simp [go_sem, d5, fb, fl5, u5, hu]; exact ⟨rfl, rfl⟩)); try dsimp only [thn, inBlk])
      | (apply AWP.dE hmix [.n 0 [5], .n 1 [113], .n 2 [114], .n 3 [115], .n 4 [5], .n 5 [117], .n 6 [118], .n 7 [119], .n 8 [116, 120], .n 9 [113], .n 10 [122], .w 11 [123, 121] []]; (focus kernel_rfl); (focus (simp [go_sem, d5, fb, fl5, u5, hu]; exact ⟨rfl, rfl⟩)); try dsimp only [thn, inBlk])
      | fail)
    refine AWP.callE (by simp [go_sem, d5, fb, fl5, u5]; exact ⟨rfl, rfl, rfl, rfl, rfl⟩) (by kernel_rfl) ?_
    rw [hun]
    refine (told_calls (op := 1) (ch := j) (n := un) k5 (by omega) (by omega) (by omega)).mono ?_
    rintro r h6 ⟨a6, rfl, k6⟩
    obtain ⟨a7, cap7, h7, e7, k7⟩ := k6.b1.brecs_app (P := Try.prog) (t := 39) (xt := 39) (fs := fs3) (x := (4 : Int)) (bs := (toldF 1 j un).2) (ba := a6) (bc := 4) (i := h6.next) Try.underlying39 tsz30 tby30 tz30 nI39 (by omega) rfl rfl rfl rfl (by omega)
    simp only [pre, List.cons_append, List.nil_append] at e7
    rw [show (toldF 1 j un).2.length = 4 from rfl] at e7
    refine awpL_restE (by simp [go_sem, e7]; exact ⟨rfl, rfl⟩) ?_; try dsimp only [thn, inBlk]
    obtain ⟨ws8, us8, k48, ko8⟩ := mux_outI hj2 k7.b1
    have g8 := k48.fo hj2
    have fl8 := m_len k48
    have r8 := g8.i1
    have u8 := g8.i2
    have d8 := ko8.tail.obj
    rw [← hy] at r8 u8
    have wr : IntKind.i64.wrap (y.room + y.untold) = y.room + y.untold := wI64 (by omega) (by omega)
    have e8 := si1 k48 hj2 (y.room + y.untold)
    rw [← hy] at e8
    have k9 := ko8.b1.set (mrow o3 ws8 (i1.set j ⟨y.come, y.room + y.untold, y.untold, y.ended⟩) us8)
    have k48b := k48.setI (c := j) ⟨y.come, y.room + y.untold, y.untold, y.ended⟩ (pg us8 j)
    rw [pset (by rw [k48.u]; exact hj2)] at k48b
    have fl9 := m_len k48b
    have e9 := si2 k48b hj2 0
    rw [og_set (by rw [mi1.il]; exact hj2), List.set_set] at e9
    have d9 := k9.obj
    have k10 := k9.set (mrow o3 ws8 (i1.set j ⟨y.come, y.room + y.untold, 0, y.ended⟩) us8)
    rw [hun] at u8
    rw [hun] at wr e8 k9 k10 e9 d9 fl9
    (repeat' first
      | refine AWP.seq ?_
      | refine AWP.block ?_
      | (refine AWP.skip ?_; try dsimp only [thn, inBlk])
      | (refine AWP.exit ?_; try simp only [thn, inBlk, if_true, reduceIte, Nat.reduceEqDiff])
      | (refine AWP.ret ?_; try dsimp only [thn, inBlk])
      | (refine AWP.condT ?_ ?_; (focus (simp [go_sem, d8, fb, fl8, r8, u8, wr, e8, d9, fl9, e9, wj]; done)))
      | (refine AWP.condF ?_ ?_; (focus (simp [go_sem, d8, fb, fl8, r8, u8, wr, e8, d9, fl9, e9, wj]; done)))
      | (apply AWP.rE; (focus (simp [go_sem, d8, fb, fl8, r8, u8, wr, e8, d9, fl9, e9, wj]; exact ⟨rfl, rfl⟩)); try dsimp only [thn, inBlk])
      | (apply AWP.dE hmix [.n 0 [0], .n 1 [3], .n 2 [10], .n 3 [12], .n 4 [13, 11], .n 5 [0], .n 6 [3], .n 7 [15], .n 8 [17], .n 9 [18, 16], .n 10 [14], .n 11 [19]]; (focus kernel_rfl); (focus (simp [go_sem, d8, fb, fl8, r8, u8, wr, e8, d9, fl9, e9, wj]; exact ⟨rfl, rfl⟩)); try dsimp only [thn, inBlk])
      | (apply AWP.dE hmix [.n 0 [4], .n 1 [33], .n 2 [34], .n 3 [35], .n 4 [36], .n 5 [4], .n 6 [38], .n 7 [39], .n 8 [40], .n 9 [37, 41], .n 10 [42]]; (focus kernel_rfl); (focus (simp [go_sem, d8, fb, fl8, r8, u8, wr, e8, d9, fl9, e9, wj]; exact ⟨rfl, rfl⟩)); try dsimp only [thn, inBlk])
      | (apply AWP.dE hmix [.n 0 [5], .n 1 [113], .n 2 [114], .n 3 [115], .n 4 [5], .n 5 [117], .n 6 [118], .n 7 [119], .n 8 [116, 120], .n 9 [113], .n 10 [122], .w 11 [123, 121] []]; (focus kernel_rfl); (focus (simp [go_sem, d8, fb, fl8, r8, u8, wr, e8, d9, fl9, e9, wj]; exact ⟨rfl, rfl⟩)); try dsimp only [thn, inBlk])
      | fail)
    have k11 := mux_inI' hj2 k48 ⟨y.come, y.room + un, 0, y.ended⟩ (by rw [hy]) k10.b1
    refine ⟨4 - j1, by omega, j1, a7, cap7, by omega, rfl, ?_, ?_⟩
    · rw [eN1]; simp [go_sem]
    · rw [eN1, eN2, eN3, hun]
      rw [List.length_append, show ((un : Nat) : Int).toNat = un from rfl]
      exact k11.b1
end L18
