import Derived.Test.YtjjocbijmhmdkaaL18y
open Go Ab Go.Proofs
namespace L18
set_option autoImplicit false
set_option linter.unusedSimpArgs false
set_option linter.unusedVariables false

theorem take_succ_eq {α : Type} {l g : List α} {j : Nat} (h : l.take j = g.take j) (h1 : j < l.length) (h2 : j < g.length) (h3 : l[j] = g[j]) : l.take (j + 1) = g.take (j + 1) := by
  rw [List.take_succ_eq_append_getElem h1, List.take_succ_eq_append_getElem h2, h, h3]

theorem br_at {h : AHeap} {v : Value} {fs : List Fr} (k : BR pre 2 h v fs) {j : Nat} (hj : j < fs.length) {kd : IntKind} :
    ∃ i off c e' sz' ti ro a cap, indexAddrP Try.prog 39 v (.int kd j) = some (.pointer (some ⟨i, off, none⟩)) ∧ h.obj i = some (.row c e' sz' ti ro) ∧ c[off]? = some (.int .i64 fs[j].1) ∧ c[off + 1]? = some (.slice a fs[j].2.length cap) ∧ off + 2 ≤ c.length ∧ (c.drop off).take 2 = [.int .i64 fs[j].1, .slice a fs[j].2.length cap] ∧ Bytes h (.slice a fs[j].2.length cap) fs[j].2 := by
  obtain ⟨i, off, c, e', sz', ti, ro, a, cap, p, q, g1, g2, g3, g4⟩ := k.at (P := Try.prog) (t := 39) (fun x => rfl) Try.underlying39 tsz30 hj (kd := kd)
  exact ⟨i, off, c, e', sz', ti, ro, a, cap, p, q, g3 0 _ rfl, g3 1 _ rfl, g1, g2, g4⟩

set_option maxHeartbeats 2000000 in
theorem same_calls {h : AHeap} {v1 v2 : Value} {fs gs : List Fr} (b1 : BR pre 2 h v1 fs) (b2 : BR pre 2 h v2 gs) (hm : fs.length ≤ 1000000000) :
    ACalls Try.prog 22 #[v1, v2] h fun v h' => v = .bool (decide (fs = gs)) ∧ h' = h := by
  obtain ⟨xa, xc, rfl⟩ := b1.val
  obtain ⟨ya, yc, rfl⟩ := b2.val
  refine ACalls.of_awp (args := [.slice xa fs.length xc, .slice ya gs.length yc]) (n := 43) Try.func22 rfl rfl (by show 2 ≤ 43; omega) ?_
  by_cases hl : fs.length = gs.length
  rotate_left
  · have hl1 : ((fs.length : Int) != gs.length) = true := by simpa using fun e => hl (by omega)
    have hn : ¬ fs = gs := fun e => hl (by rw [e])
    (repeat' first
      | refine AWP.seq ?_
      | refine AWP.block ?_
      | (refine AWP.skip ?_; try dsimp only [thn, inBlk])
      | (refine AWP.exit ?_; try simp only [thn, inBlk, if_true, reduceIte, Nat.reduceEqDiff])
      | (refine AWP.ret ?_; try dsimp only [thn, inBlk])
      | (refine AWP.condT ?_ ?_; (focus (simp [go_sem, hl1]; done)))
      | (refine AWP.condF ?_ ?_; (focus (simp [go_sem, hl1]; done)))
      | (apply AWP.rE; (focus (simp [go_sem, hl1]; exact ⟨rfl, rfl⟩)); try dsimp only [thn, inBlk])
      | (apply AWP.dE hmix [.n 0 [0], .n 1 [5], .n 2 [17, 18], .n 3 [19], .n 4 [20], .n 5 [1], .n 6 [5], .n 7 [22, 23], .n 8 [24], .n 9 [25], .n 10 [21, 26], .n 11 [27], .n 12 [0, 28], .n 13 [5, 28], .n 14 [29, 30, 28], .n 15 [31, 28], .n 16 [32, 28], .n 17 [33, 28], .n 18 [1, 28], .n 19 [5, 28], .n 20 [35, 36, 28], .n 21 [37, 28], .n 22 [38, 28], .n 23 [39, 28], .n 24 [34, 40, 28], .n 25 [28, 41]]; (focus kernel_rfl); (focus (simp [go_sem, hl1]; exact ⟨rfl, rfl⟩)); try dsimp only [thn, inBlk])
      | fail)
    simp [bodyQ, thn, inBlk, resA, resV, go_sem, hn]
  have hl1 : ((fs.length : Int) != gs.length) = false := by simp; omega
  (repeat' first
    | refine AWP.seq ?_
    | refine AWP.block ?_
    | (refine AWP.skip ?_; try dsimp only [thn, inBlk])
    | (refine AWP.exit ?_; try simp only [thn, inBlk, if_true, reduceIte, Nat.reduceEqDiff])
    | (refine AWP.ret ?_; try dsimp only [thn, inBlk])
    | (refine AWP.condT ?_ ?_; (focus (simp [go_sem, hl1]; done)))
    | (refine AWP.condF ?_ ?_; (focus (simp [go_sem, hl1]; done)))
    | (apply AWP.rE; (focus (simp [go_sem, hl1]; exact ⟨rfl, rfl⟩)); try dsimp only [thn, inBlk])
    | (apply AWP.dE hmix [.n 0 [0], .n 1 [5], .n 2 [17, 18], .n 3 [19], .n 4 [20], .n 5 [1], .n 6 [5], .n 7 [22, 23], .n 8 [24], .n 9 [25], .n 10 [21, 26], .n 11 [27], .n 12 [0, 28], .n 13 [5, 28], .n 14 [29, 30, 28], .n 15 [31, 28], .n 16 [32, 28], .n 17 [33, 28], .n 18 [1, 28], .n 19 [5, 28], .n 20 [35, 36, 28], .n 21 [37, 28], .n 22 [38, 28], .n 23 [39, 28], .n 24 [34, 40, 28], .n 25 [28, 41]]; (focus kernel_rfl); (focus (simp [go_sem, hl1]; exact ⟨rfl, rfl⟩)); try dsimp only [thn, inBlk])
    | fail)
  refine AWP.loopR [0, 1, 5] (fun m s h' => ∃ j : Nat, j ≤ fs.length ∧ m = fs.length - j ∧ s = ⟨43, [(0, .slice xa fs.length xc), (1, .slice ya gs.length yc), (5, .int .i64 j)]⟩ ∧ fs.take j = gs.take j ∧ h' = h) ?_ ?_
  · exact ⟨_, 0, by omega, rfl, rfl, by simp, rfl⟩
  rintro m s h' ⟨j, hj, rfl, rfl, ht, rfl⟩
  by_cases hj0 : j < fs.length
  rotate_left
  · have hj1 : ¬ (j : Int) < fs.length := by omega
    obtain rfl : j = fs.length := by omega
    have he : fs = gs := by rw [List.take_length, hl, List.take_length] at ht; exact ht
    (repeat' first
      | refine AWP.seq ?_
      | refine AWP.block ?_
      | (refine AWP.skip ?_; try dsimp only [thn, inBlk])
      | (refine AWP.exit ?_; try simp only [thn, inBlk, if_true, reduceIte, Nat.reduceEqDiff])
      | (refine AWP.ret ?_; try dsimp only [thn, inBlk])
      | (refine AWP.condT ?_ ?_; (focus (simp [go_sem, hj1]; done)))
      | (refine AWP.condF ?_ ?_; (focus (simp [go_sem, hj1]; done)))
      | (apply AWP.rE; (focus (simp [go_sem, hj1]; exact ⟨rfl, rfl⟩)); try dsimp only [thn, inBlk])
      | (apply AWP.dE hmix [.n 0 [0], .n 1 [5], .n 2 [17, 18], .n 3 [19], .n 4 [20], .n 5 [1], .n 6 [5], .n 7 [22, 23], .n 8 [24], .n 9 [25], .n 10 [21, 26], .n 11 [27], .n 12 [0, 28], .n 13 [5, 28], .n 14 [29, 30, 28], .n 15 [31, 28], .n 16 [32, 28], .n 17 [33, 28], .n 18 [1, 28], .n 19 [5, 28], .n 20 [35, 36, 28], .n 21 [37, 28], .n 22 [38, 28], .n 23 [39, 28], .n 24 [34, 40, 28], .n 25 [28, 41]]; (focus kernel_rfl); (focus (simp [go_sem, hj1]; exact ⟨rfl, rfl⟩)); try dsimp only [thn, inBlk])
      | fail)
    simp [bodyQ, thn, inBlk, resA, resV, go_sem, he]
  have hj1 : (j : Int) < fs.length := by omega
  have w1 : IntKind.i64.wrap ((j : Int) + 1) = ((j + 1 : Nat) : Int) := by rw [wI64 (by omega) (by omega)]; omega
  obtain ⟨i0, o0, c0, e0, z0, ti0, ro0, a0, n0, p0, q0, g0, g0', l0, f0, b0⟩ := br_at b1 hj0 (kd := .i64)
  obtain ⟨i3, o3, c3, e3, z3, ti3, ro3, a3, n3, p3, q3, g3, g3', l3, f3, b3⟩ := br_at b2 (j := j) (by omega) (kd := .i64)
  have s0 := b0.str (P := Try.prog) (t := 28) (e := 5) (u := 9) Try.underlying28 Try.underlying5 Try.underlying9
  have s3 := b3.str (P := Try.prog) (t := 28) (e := 5) (u := 9) Try.underlying28 Try.underlying5 Try.underlying9
  by_cases hc : fs[j].1 = gs[j].1
  rotate_left
  · have hc1 : (fs[j].1 != (gs[j]'(by omega)).1) = true := by simpa using hc
    have hn : ¬ fs = gs := fun e => hc (by subst e; rfl)
    (repeat' first
      | refine AWP.seq ?_
      | refine AWP.block ?_
      | (refine AWP.skip ?_; try dsimp only [thn, inBlk])
      | (refine AWP.exit ?_; try simp only [thn, inBlk, if_true, reduceIte, Nat.reduceEqDiff])
      | (refine AWP.ret ?_; try dsimp only [thn, inBlk])
      | (refine AWP.condT ?_ ?_; (focus (simp [go_sem, hj1, p0, q0, g0, g0', p3, q3, g3, g3', hc1]; done)))
      | (refine AWP.condF ?_ ?_; (focus (simp [go_sem, hj1, p0, q0, g0, g0', p3, q3, g3, g3', hc1]; done)))
      | (apply AWP.rE; (focus (simp [go_sem, hj1, p0, q0, g0, g0', p3, q3, g3, g3', hc1]; exact ⟨rfl, rfl⟩)); try dsimp only [thn, inBlk])
      | (apply AWP.dE hmix [.n 0 [0], .n 1 [5], .n 2 [17, 18], .n 3 [19], .n 4 [20], .n 5 [1], .n 6 [5], .n 7 [22, 23], .n 8 [24], .n 9 [25], .n 10 [21, 26], .n 11 [27], .n 12 [0, 28], .n 13 [5, 28], .n 14 [29, 30, 28], .n 15 [31, 28], .n 16 [32, 28], .n 17 [33, 28], .n 18 [1, 28], .n 19 [5, 28], .n 20 [35, 36, 28], .n 21 [37, 28], .n 22 [38, 28], .n 23 [39, 28], .n 24 [34, 40, 28], .n 25 [28, 41]]; (focus kernel_rfl); (focus (simp [go_sem, hj1, p0, q0, g0, g0', p3, q3, g3, g3', hc1]; exact ⟨rfl, rfl⟩)); try dsimp only [thn, inBlk])
      | fail)
    simp [bodyQ, thn, inBlk, resA, resV, go_sem, hn]
  have hc1 : (fs[j].1 != (gs[j]'(by omega)).1) = false := by simpa using hc
  by_cases hd : fs[j].2 = gs[j].2
  rotate_left
  · have hd1 : (fs[j].2 == (gs[j]'(by omega)).2) = false := by simpa using hd
    have hn : ¬ fs = gs := fun e => hd (by subst e; rfl)
    (repeat' first
      | refine AWP.seq ?_
      | refine AWP.block ?_
      | (refine AWP.skip ?_; try dsimp only [thn, inBlk])
      | (refine AWP.exit ?_; try simp only [thn, inBlk, if_true, reduceIte, Nat.reduceEqDiff])
      | (refine AWP.ret ?_; try dsimp only [thn, inBlk])
      | (refine AWP.condT ?_ ?_; (focus (simp [go_sem, hj1, p0, q0, g0, g0', p3, q3, g3, g3', hc1, s0, s3, hd1]; done)))
      | (refine AWP.condF ?_ ?_; (focus (simp [go_sem, hj1, p0, q0, g0, g0', p3, q3, g3, g3', hc1, s0, s3, hd1]; done)))
      | (apply AWP.rE; (focus (simp [go_sem, hj1, p0, q0, g0, g0', p3, q3, g3, g3', hc1, s0, s3, hd1]; exact ⟨rfl, rfl⟩)); try dsimp only [thn, inBlk])
      | (apply AWP.dE hmix [.n 0 [0], .n 1 [5], .n 2 [17, 18], .n 3 [19], .n 4 [20], .n 5 [1], .n 6 [5], .n 7 [22, 23], .n 8 [24], .n 9 [25], .n 10 [21, 26], .n 11 [27], .n 12 [0, 28], .n 13 [5, 28], .n 14 [29, 30, 28], .n 15 [31, 28], .n 16 [32, 28], .n 17 [33, 28], .n 18 [1, 28], .n 19 [5, 28], .n 20 [35, 36, 28], .n 21 [37, 28], .n 22 [38, 28], .n 23 [39, 28], .n 24 [34, 40, 28], .n 25 [28, 41]]; (focus kernel_rfl); (focus (simp [go_sem, hj1, p0, q0, g0, g0', p3, q3, g3, g3', hc1, s0, s3, hd1]; exact ⟨rfl, rfl⟩)); try dsimp only [thn, inBlk])
      | fail)
    simp [bodyQ, thn, inBlk, resA, resV, go_sem, hn]
  have hd1 : (fs[j].2 == (gs[j]'(by omega)).2) = true := by simpa using hd
  (repeat' first
    | refine AWP.seq ?_
    | refine AWP.block ?_
    | (refine AWP.skip ?_; try dsimp only [thn, inBlk])
    | (refine AWP.exit ?_; try simp only [thn, inBlk, if_true, reduceIte, Nat.reduceEqDiff])
    | (refine AWP.ret ?_; try dsimp only [thn, inBlk])
    | (refine AWP.condT ?_ ?_; (focus (simp [go_sem, hj1, p0, q0, g0, g0', p3, q3, g3, g3', hc1, s0, s3, hd1, w1]; done)))
    | (refine AWP.condF ?_ ?_; (focus (simp [go_sem, hj1, p0, q0, g0, g0', p3, q3, g3, g3', hc1, s0, s3, hd1, w1]; done)))
    | (apply AWP.rE; (focus (simp [go_sem, hj1, p0, q0, g0, g0', p3, q3, g3, g3', hc1, s0, s3, hd1, w1]; exact ⟨rfl, rfl⟩)); try dsimp only [thn, inBlk])
    | (apply AWP.dE hmix [.n 0 [0], .n 1 [5], .n 2 [17, 18], .n 3 [19], .n 4 [20], .n 5 [1], .n 6 [5], .n 7 [22, 23], .n 8 [24], .n 9 [25], .n 10 [21, 26], .n 11 [27], .n 12 [0, 28], .n 13 [5, 28], .n 14 [29, 30, 28], .n 15 [31, 28], .n 16 [32, 28], .n 17 [33, 28], .n 18 [1, 28], .n 19 [5, 28], .n 20 [35, 36, 28], .n 21 [37, 28], .n 22 [38, 28], .n 23 [39, 28], .n 24 [34, 40, 28], .n 25 [28, 41]]; (focus kernel_rfl); (focus (simp [go_sem, hj1, p0, q0, g0, g0', p3, q3, g3, g3', hc1, s0, s3, hd1, w1]; exact ⟨rfl, rfl⟩)); try dsimp only [thn, inBlk])
    | fail)
  exact ⟨fs.length - (j + 1), by omega, j + 1, by omega, rfl, by simp [go_sem], take_succ_eq ht hj0 (by omega) (Prod.ext hc hd), rfl⟩

/-! ### The document's Out -/
attribute [local irreducible] dcells
abbrev pD (b n : Nat) : Value := .pointer (some ⟨b, n * 9, none⟩)
theorem Own.frs_new {O : Old} {h : AHeap} {R : List Chunk} {i : Nat} (k : Own O h (cell i (.row [] 30 2 true false) :: R)) : Own O h (frs (.slice (some ⟨i, 0, none⟩) 0 0) [] :: R) :=
  brecs_iff.2 ⟨[], rfl, k.os_mk (n := 0) (cap := 0) (off := 0) (cs := []) (Nat.le_refl _) (by simp) (by rfl)⟩
theorem doutN_w {D : List Dc} (c : Nat) : ∀ j, (dg (doutN D j).2 c).w = (dg D c).w
  | 0 => rfl
  | j + 1 => by
    simp only [doutN, dout1]
    by_cases e : c = j
    · subst e
      by_cases hl : c < (doutN D c).2.length
      · rw [dg_set hl]; exact doutN_w c c
      · rw [List.set_eq_of_length_le (by omega)]; exact doutN_w c c
    · rw [dg_ne e]; exact doutN_w c j
theorem doutN_len {D : List Dc} (k : DI D) (j : Nat) (hj : j ≤ 4) : (doutN D j).1.length ≤ j * 4098 := by
  have := (k.mi.outN j hj).2
  rw [(doutN_pr k j hj).1] at this
  exact this
set_option maxHeartbeats 4000000 in
theorem dout_calls {O : Old} {h : AHeap} {R : List Chunk} {b : Nat} {D : List Dc} {ps : List PP} (k : Own O h (cell b (drow D ps) :: R)) (k4 : Fr4 D ps) (di : DI D) (hW : ∀ c, (dg D c).w.length ≤ 1000000000)
    (hx : ∀ h, Own O h R → ∀ c, c < 4 → Bytes h (.slice (qg ps c).1.1 (dg D c).w.length (qg ps c).1.2) (dg D c).w) :
    ACalls Try.prog 23 #[ptr b] h fun r h' => ∃ a cap, r = .slice a (doutN D 4).1.length cap ∧ Own O h' (frs (.slice a (doutN D 4).1.length cap) (doutN D 4).1 :: cell b (drow (doutN D 4).2 ps) :: R) := by
  refine ACalls.of_awp (args := [ptr b]) (n := 167) Try.func23 rfl rfl (by show 1 ≤ 167; omega) ?_
  have k1 := Own.frs_new (k.push (.row [] 30 2 true false))
  (repeat' first
    | refine AWP.seq ?_
    | refine AWP.block ?_
    | (refine AWP.skip ?_; try dsimp only [thn, inBlk])
    | (refine AWP.exit ?_; try simp only [thn, inBlk, if_true, reduceIte, Nat.reduceEqDiff])
    | (refine AWP.ret ?_; try dsimp only [thn, inBlk])
    | (refine AWP.condT ?_ ?_; (focus (simp [go_sem]; done)))
    | (refine AWP.condF ?_ ?_; (focus (simp [go_sem]; done)))
    | (apply AWP.rE; (focus (simp [go_sem]; exact ⟨rfl, rfl⟩)); try dsimp only [thn, inBlk])
    | (apply AWP.dE hmix [.n 0 [5], .n 1 [18], .n 2 [19], .n 3 [20], .n 4 [5], .n 5 [22], .n 6 [23], .n 7 [24], .n 8 [25], .n 9 [21, 26], .n 10 [27], .n 11 [5, 28], .n 12 [29, 28], .n 13 [30, 28], .n 14 [31, 28], .n 15 [32, 28], .n 16 [28, 33]]; (focus kernel_rfl); (focus (simp [go_sem]; exact ⟨rfl, rfl⟩)); try dsimp only [thn, inBlk])
    | (apply AWP.dE hmix [.n 0 [5], .n 1 [35], .n 2 [36], .n 3 [37], .n 4 [38], .n 5 [5], .n 6 [40], .n 7 [41], .n 8 [42], .n 9 [39, 43], .n 10 [44]]; (focus kernel_rfl); (focus (simp [go_sem]; exact ⟨rfl, rfl⟩)); try dsimp only [thn, inBlk])
    | (apply AWP.dE hmix [.n 0 [3], .n 1 [4], .n 2 [], .n 3 [5], .n 4 [60], .n 5 [61], .n 6 [62], .n 7 [5], .n 8 [64], .n 9 [65], .n 10 [66], .n 11 [5], .n 12 [68], .n 13 [69], .n 14 [70], .n 15 [6], .n 16 [71, 72], .n 17 [63, 67, 73], .w 18 [59, 74] [], .n 19 [58, 75], .n 20 [76], .w 21 [57, 77] [], .n 22 [78]]; (focus kernel_rfl); (focus (simp [go_sem]; exact ⟨rfl, rfl⟩)); try dsimp only [thn, inBlk])
    | (apply AWP.dE hmix [.n 0 [5], .n 1 [95], .n 2 [96], .n 3 [97], .n 4 [98], .n 5 [5, 99], .n 6 [100, 99], .n 7 [101, 99], .n 8 [102, 99], .n 9 [103, 99], .n 10 [99, 104], .n 11 [105], .n 12 [5, 106], .n 13 [107, 106], .n 14 [108, 106], .n 15 [109, 106], .n 16 [5, 106], .n 17 [111, 106], .n 18 [112, 106], .n 19 [113, 106], .n 20 [114, 106], .n 21 [110, 115, 106], .n 22 [106, 116]]; (focus kernel_rfl); (focus (simp [go_sem]; exact ⟨rfl, rfl⟩)); try dsimp only [thn, inBlk])
    | (apply AWP.dE hmix [.n 0 [5], .n 1 [128], .n 2 [129], .n 3 [130], .n 4 [5], .n 5 [132], .n 6 [133], .n 7 [134], .n 8 [131, 135]]; (focus kernel_rfl); (focus (simp [go_sem]; exact ⟨rfl, rfl⟩)); try dsimp only [thn, inBlk])
    | (apply AWP.dE hmix [.n 0 [5], .n 1 [137], .n 2 [138], .n 3 [139], .n 4 [5], .n 5 [141], .n 6 [142], .n 7 [143], .n 8 [140, 144], .n 9 [145]]; (focus kernel_rfl); (focus (simp [go_sem]; exact ⟨rfl, rfl⟩)); try dsimp only [thn, inBlk])
    | fail)
  refine AWP.loopR [0, 3, 4] (fun m s h' => ∃ j a cap, j ≤ 4 ∧ m = 4 - j ∧ s = ⟨167, [(0, ptr b), (3, .slice a (doutN D j).1.length cap), (4, .int .i64 (j : Nat))]⟩ ∧
    Own O h' (frs (.slice a (doutN D j).1.length cap) (doutN D j).1 :: cell b (drow (doutN D j).2 ps) :: R)) ?_ ?_
  · exact ⟨_, 0, _, _, by omega, rfl, by simp [go_sem, doutN]; exact ⟨rfl, rfl⟩, by exact k1⟩
  rintro m s h' ⟨j, a, cap, hj, rfl, rfl, kt⟩
  by_cases hj2 : j < 4
  rotate_left
  · have hj3 : ¬ (j : Int) < 4 := by omega
    obtain rfl : j = 4 := by omega
    (repeat' first
      | refine AWP.seq ?_
      | refine AWP.block ?_
      | (refine AWP.skip ?_; try dsimp only [thn, inBlk])
      | (refine AWP.exit ?_; try simp only [thn, inBlk, if_true, reduceIte, Nat.reduceEqDiff])
      | (refine AWP.ret ?_; try dsimp only [thn, inBlk])
      | (refine AWP.condT ?_ ?_; (focus (simp [go_sem, hj3]; done)))
      | (refine AWP.condF ?_ ?_; (focus (simp [go_sem, hj3]; done)))
      | (apply AWP.rE; (focus (simp [go_sem, hj3]; exact ⟨rfl, rfl⟩)); try dsimp only [thn, inBlk])
      | (apply AWP.dE hmix [.n 0 [5], .n 1 [18], .n 2 [19], .n 3 [20], .n 4 [5], .n 5 [22], .n 6 [23], .n 7 [24], .n 8 [25], .n 9 [21, 26], .n 10 [27], .n 11 [5, 28], .n 12 [29, 28], .n 13 [30, 28], .n 14 [31, 28], .n 15 [32, 28], .n 16 [28, 33]]; (focus kernel_rfl); (focus (simp [go_sem, hj3]; exact ⟨rfl, rfl⟩)); try dsimp only [thn, inBlk])
      | (apply AWP.dE hmix [.n 0 [5], .n 1 [35], .n 2 [36], .n 3 [37], .n 4 [38], .n 5 [5], .n 6 [40], .n 7 [41], .n 8 [42], .n 9 [39, 43], .n 10 [44]]; (focus kernel_rfl); (focus (simp [go_sem, hj3]; exact ⟨rfl, rfl⟩)); try dsimp only [thn, inBlk])
      | (apply AWP.dE hmix [.n 0 [3], .n 1 [4], .n 2 [], .n 3 [5], .n 4 [60], .n 5 [61], .n 6 [62], .n 7 [5], .n 8 [64], .n 9 [65], .n 10 [66], .n 11 [5], .n 12 [68], .n 13 [69], .n 14 [70], .n 15 [6], .n 16 [71, 72], .n 17 [63, 67, 73], .w 18 [59, 74] [], .n 19 [58, 75], .n 20 [76], .w 21 [57, 77] [], .n 22 [78]]; (focus kernel_rfl); (focus (simp [go_sem, hj3]; exact ⟨rfl, rfl⟩)); try dsimp only [thn, inBlk])
      | (apply AWP.dE hmix [.n 0 [5], .n 1 [95], .n 2 [96], .n 3 [97], .n 4 [98], .n 5 [5, 99], .n 6 [100, 99], .n 7 [101, 99], .n 8 [102, 99], .n 9 [103, 99], .n 10 [99, 104], .n 11 [105], .n 12 [5, 106], .n 13 [107, 106], .n 14 [108, 106], .n 15 [109, 106], .n 16 [5, 106], .n 17 [111, 106], .n 18 [112, 106], .n 19 [113, 106], .n 20 [114, 106], .n 21 [110, 115, 106], .n 22 [106, 116]]; (focus kernel_rfl); (focus (simp [go_sem, hj3]; exact ⟨rfl, rfl⟩)); try dsimp only [thn, inBlk])
      | (apply AWP.dE hmix [.n 0 [5], .n 1 [128], .n 2 [129], .n 3 [130], .n 4 [5], .n 5 [132], .n 6 [133], .n 7 [134], .n 8 [131, 135]]; (focus kernel_rfl); (focus (simp [go_sem, hj3]; exact ⟨rfl, rfl⟩)); try dsimp only [thn, inBlk])
      | (apply AWP.dE hmix [.n 0 [5], .n 1 [137], .n 2 [138], .n 3 [139], .n 4 [5], .n 5 [141], .n 6 [142], .n 7 [143], .n 8 [140, 144], .n 9 [145]]; (focus kernel_rfl); (focus (simp [go_sem, hj3]; exact ⟨rfl, rfl⟩)); try dsimp only [thn, inBlk])
      | fail)
    simp [bodyQ, thn, inBlk, resA, resV, go_sem]
    exact ⟨a, cap, ⟨rfl, rfl⟩, kt⟩
  have hj3 : (j : Int) < 4 := by omega
  obtain ⟨j1, hj1⟩ : ∃ j1, j1 = j + 1 := ⟨_, rfl⟩
  have wj : IntKind.i64.wrap ((j : Int) + 1) = (j1 : Int) := by rw [wI64 (by omega) (by omega)]; omega
  have di1 := (doutN_pr di j hj).2
  have hfl := doutN_len di j hj
  have eN : doutN D j1 = ((doutN D j).1 ++ (dout1 (doutN D j).2 j).1, (dout1 (doutN D j).2 j).2) := by rw [hj1]; rfl
  have hw0 := doutN_w (D := D) j j
  have hxj := fun (hh : AHeap) (kk : Own O hh R) => hx hh kk j hj2
  have hWj := hW j
  rw [← hw0] at hxj hWj
  generalize hfs : (doutN D j).1 = fs at *
  generalize hD1 : (doutN D j).2 = D1 at *
  obtain ⟨x, hxx⟩ : ∃ x, x = dg D1 j := ⟨_, rfl⟩
  obtain ⟨o1, o2, o3, o4, o5, o6, o7⟩ := di1.at j
  rw [← hxx] at o1 o2 o3 o4 o5 o6 o7 hxj hWj
  have hDl : j < D1.length := by rw [di1.l]; exact hj2
  obtain ⟨M, hM⟩ : ∃ M, M = mcut j (x.w.drop x.s) x.cr := ⟨_, rfl⟩
  have kk4 : Fr4 D1 ps := ⟨di1.l, k4.p⟩
  (repeat' first
    | refine AWP.seq ?_
    | refine AWP.block ?_
    | (refine AWP.skip ?_; try dsimp only [thn, inBlk])
    | (refine AWP.exit ?_; try simp only [thn, inBlk, if_true, reduceIte, Nat.reduceEqDiff])
    | (refine AWP.ret ?_; try dsimp only [thn, inBlk])
    | (refine AWP.condT ?_ ?_; (focus (simp [go_sem, hj3]; done)))
    | (refine AWP.condF ?_ ?_; (focus (simp [go_sem, hj3]; done)))
    | (apply AWP.rE; (focus (simp [go_sem, hj3]; exact ⟨rfl, rfl⟩)); try dsimp only [thn, inBlk])
    | (apply AWP.dE hmix [.n 0 [5], .n 1 [18], .n 2 [19], .n 3 [20], .n 4 [5], .n 5 [22], .n 6 [23], .n 7 [24], .n 8 [25], .n 9 [21, 26], .n 10 [27], .n 11 [5, 28], .n 12 [29, 28], .n 13 [30, 28], .n 14 [31, 28], .n 15 [32, 28], .n 16 [28, 33]]; (focus kernel_rfl); (focus (simp [go_sem, hj3]; exact ⟨rfl, rfl⟩)); try dsimp only [thn, inBlk])
    | (apply AWP.dE hmix [.n 0 [5], .n 1 [35], .n 2 [36], .n 3 [37], .n 4 [38], .n 5 [5], .n 6 [40], .n 7 [41], .n 8 [42], .n 9 [39, 43], .n 10 [44]]; (focus kernel_rfl); (focus (simp [go_sem, hj3]; exact ⟨rfl, rfl⟩)); try dsimp only [thn, inBlk])
    | (apply AWP.dE hmix [.n 0 [3], .n 1 [4], .n 2 [], .n 3 [5], .n 4 [60], .n 5 [61], .n 6 [62], .n 7 [5], .n 8 [64], .n 9 [65], .n 10 [66], .n 11 [5], .n 12 [68], .n 13 [69], .n 14 [70], .n 15 [6], .n 16 [71, 72], .n 17 [63, 67, 73], .w 18 [59, 74] [], .n 19 [58, 75], .n 20 [76], .w 21 [57, 77] [], .n 22 [78]]; (focus kernel_rfl); (focus (simp [go_sem, hj3]; exact ⟨rfl, rfl⟩)); try dsimp only [thn, inBlk])
    | (apply AWP.dE hmix [.n 0 [5], .n 1 [95], .n 2 [96], .n 3 [97], .n 4 [98], .n 5 [5, 99], .n 6 [100, 99], .n 7 [101, 99], .n 8 [102, 99], .n 9 [103, 99], .n 10 [99, 104], .n 11 [105], .n 12 [5, 106], .n 13 [107, 106], .n 14 [108, 106], .n 15 [109, 106], .n 16 [5, 106], .n 17 [111, 106], .n 18 [112, 106], .n 19 [113, 106], .n 20 [114, 106], .n 21 [110, 115, 106], .n 22 [106, 116]]; (focus kernel_rfl); (focus (simp [go_sem, hj3]; exact ⟨rfl, rfl⟩)); try dsimp only [thn, inBlk])
    | (apply AWP.dE hmix [.n 0 [5], .n 1 [128], .n 2 [129], .n 3 [130], .n 4 [5], .n 5 [132], .n 6 [133], .n 7 [134], .n 8 [131, 135]]; (focus kernel_rfl); (focus (simp [go_sem, hj3]; exact ⟨rfl, rfl⟩)); try dsimp only [thn, inBlk])
    | (apply AWP.dE hmix [.n 0 [5], .n 1 [137], .n 2 [138], .n 3 [139], .n 4 [5], .n 5 [141], .n 6 [142], .n 7 [143], .n 8 [140, 144], .n 9 [145]]; (focus kernel_rfl); (focus (simp [go_sem, hj3]; exact ⟨rfl, rfl⟩)); try dsimp only [thn, inBlk])
    | fail)
  refine AWP.loopR [0, 3, 4, 5] (fun m s h'' => ∃ (sv : Nat) (cr : Int) (fs2 : List Fr) (a : Option Addr) (cap : Nat), m = x.w.length - sv ∧ s = ⟨167, [(0, ptr b), (3, .slice a fs2.length cap), (4, .int .i64 (j : Nat)), (5, pD b j)]⟩ ∧
    fs ++ M.1 = fs2 ++ (mcut j (x.w.drop sv) cr).1 ∧ M.2 = (mcut j (x.w.drop sv) cr).2 ∧ 0 ≤ cr ∧ cr ≤ 1024 ∧ sv ≤ x.w.length ∧ x.w.length - sv ≤ 4096 ∧ fs2.length + (x.w.length - sv) ≤ fs.length + 4096 ∧
    Own O h'' (frs (.slice a fs2.length cap) fs2 :: cell b (drow (D1.set j { x with s := sv, cr := cr }) ps) :: R)) ?_ ?_
  · have hs : D1.set j { x with s := x.s, cr := x.cr } = D1 := by
      rw [hxx]; exact dset hDl
    exact ⟨_, x.s, x.cr, fs, a, cap, rfl, by simp [go_sem], by rw [hM], by rw [hM], o6, o7, o1, o2, by omega, by rw [hs]; exact kt⟩
  rintro m s h2 ⟨sv, cr, fs2, a2, cap2, rfl, rfl, hw1, hw2, hc0, hc1, hs1, hs2, hfl2, k2⟩
  obtain ⟨xx, hxx2⟩ : ∃ xx : Dc, xx = { x with s := sv, cr := cr } := ⟨_, rfl⟩
  rw [← hxx2] at k2
  have q4 : Fr4 (D1.set j xx) ps := kk4.setD xx
  have g := q4.fd hj2
  have fb := g.b
  have fl := d_len q4
  have f0 := g.d0
  have f1 := g.d1
  have f2 := g.d2
  have f3 := g.d3
  have f5 := g.d5
  have f6 := g.d6
  have f7 := g.d7
  rw [dg_set hDl] at f0 f1 f2 f3 f5 f6 f7
  rw [show xx.w = x.w by rw [hxx2]] at f0
  rw [show xx.s = sv by rw [hxx2]] at f1
  rw [show xx.closed = x.closed by rw [hxx2]] at f2
  rw [show xx.told = x.told by rw [hxx2]] at f3
  rw [show xx.r = x.r by rw [hxx2]] at f5
  rw [show xx.sd = x.sd by rw [hxx2]] at f6
  rw [show xx.cr = cr by rw [hxx2]] at f7
  have c1 := k2.tail.obj
  obtain ⟨L, hL⟩ : ∃ L, L = x.w.length - sv := ⟨_, rfl⟩
  have wL : IntKind.i64.wrap ((x.w.length : Int) - (sv : Int)) = (L : Int) := by rw [wI64 (by omega) (by omega)]; omega
  by_cases hgo : 0 < L ∧ 0 < cr
  · obtain ⟨q1, q2⟩ := hgo
    have q1' : (sv : Int) < (x.w.length : Int) := by omega
    obtain ⟨n, hn⟩ : ∃ n, n = min (min L cr.toNat) 512 := ⟨_, rfl⟩
    (repeat' first
      | refine AWP.seq ?_
      | refine AWP.block ?_
      | (refine AWP.skip ?_; try dsimp only [thn, inBlk])
      | (refine AWP.exit ?_; try simp only [thn, inBlk, if_true, reduceIte, Nat.reduceEqDiff])
      | (refine AWP.ret ?_; try dsimp only [thn, inBlk])
      | (refine AWP.condT ?_ ?_; (focus (simp [go_sem, c1, fb, fl, f0, f1, f7, q1', q2, wL]; done)))
      | (refine AWP.condF ?_ ?_; (focus (simp [go_sem, c1, fb, fl, f0, f1, f7, q1', q2, wL]; done)))
      | (apply AWP.rE; (focus (simp [go_sem, c1, fb, fl, f0, f1, f7, q1', q2, wL]; exact ⟨rfl, rfl⟩)); try dsimp only [thn, inBlk])
      | (apply AWP.dE hmix [.n 0 [5], .n 1 [18], .n 2 [19], .n 3 [20], .n 4 [5], .n 5 [22], .n 6 [23], .n 7 [24], .n 8 [25], .n 9 [21, 26], .n 10 [27], .n 11 [5, 28], .n 12 [29, 28], .n 13 [30, 28], .n 14 [31, 28], .n 15 [32, 28], .n 16 [28, 33]]; (focus kernel_rfl); (focus (simp [go_sem, c1, fb, fl, f0, f1, f7, q1', q2, wL]; exact ⟨rfl, rfl⟩)); try dsimp only [thn, inBlk])
      | (apply AWP.dE hmix [.n 0 [5], .n 1 [35], .n 2 [36], .n 3 [37], .n 4 [38], .n 5 [5], .n 6 [40], .n 7 [41], .n 8 [42], .n 9 [39, 43], .n 10 [44]]; (focus kernel_rfl); (focus (simp [go_sem, c1, fb, fl, f0, f1, f7, q1', q2, wL]; exact ⟨rfl, rfl⟩)); try dsimp only [thn, inBlk])
      | (apply AWP.dE hmix [.n 0 [3], .n 1 [4], .n 2 [], .n 3 [5], .n 4 [60], .n 5 [61], .n 6 [62], .n 7 [5], .n 8 [64], .n 9 [65], .n 10 [66], .n 11 [5], .n 12 [68], .n 13 [69], .n 14 [70], .n 15 [6], .n 16 [71, 72], .n 17 [63, 67, 73], .w 18 [59, 74] [], .n 19 [58, 75], .n 20 [76], .w 21 [57, 77] [], .n 22 [78]]; (focus kernel_rfl); (focus (simp [go_sem, c1, fb, fl, f0, f1, f7, q1', q2, wL]; exact ⟨rfl, rfl⟩)); try dsimp only [thn, inBlk])
      | (apply AWP.dE hmix [.n 0 [5], .n 1 [95], .n 2 [96], .n 3 [97], .n 4 [98], .n 5 [5, 99], .n 6 [100, 99], .n 7 [101, 99], .n 8 [102, 99], .n 9 [103, 99], .n 10 [99, 104], .n 11 [105], .n 12 [5, 106], .n 13 [107, 106], .n 14 [108, 106], .n 15 [109, 106], .n 16 [5, 106], .n 17 [111, 106], .n 18 [112, 106], .n 19 [113, 106], .n 20 [114, 106], .n 21 [110, 115, 106], .n 22 [106, 116]]; (focus kernel_rfl); (focus (simp [go_sem, c1, fb, fl, f0, f1, f7, q1', q2, wL]; exact ⟨rfl, rfl⟩)); try dsimp only [thn, inBlk])
      | (apply AWP.dE hmix [.n 0 [5], .n 1 [128], .n 2 [129], .n 3 [130], .n 4 [5], .n 5 [132], .n 6 [133], .n 7 [134], .n 8 [131, 135]]; (focus kernel_rfl); (focus (simp [go_sem, c1, fb, fl, f0, f1, f7, q1', q2, wL]; exact ⟨rfl, rfl⟩)); try dsimp only [thn, inBlk])
      | (apply AWP.dE hmix [.n 0 [5], .n 1 [137], .n 2 [138], .n 3 [139], .n 4 [5], .n 5 [141], .n 6 [142], .n 7 [143], .n 8 [140, 144], .n 9 [145]]; (focus kernel_rfl); (focus (simp [go_sem, c1, fb, fl, f0, f1, f7, q1', q2, wL]; exact ⟨rfl, rfl⟩)); try dsimp only [thn, inBlk])
      | fail)
    obtain ⟨n1, hn1⟩ : ∃ n1, n1 = min L cr.toNat := ⟨_, rfl⟩
    refine AWP.cutT [0, 3, 4, 5, 6] (fun s h'' => s = ⟨167, [(0, ptr b), (3, .slice a2 fs2.length cap2), (4, .int .i64 (j : Nat)), (5, pD b j), (6, .int .i64 (n1 : Nat))]⟩ ∧ h'' = h2) ?_ ?_
    · by_cases hA : cr < (L : Int)
      · have : cr = (n1 : Int) := by omega
        (repeat' first
          | refine AWP.seq ?_
          | refine AWP.block ?_
          | (refine AWP.skip ?_; try dsimp only [thn, inBlk])
          | (refine AWP.exit ?_; try simp only [thn, inBlk, if_true, reduceIte, Nat.reduceEqDiff])
          | (refine AWP.ret ?_; try dsimp only [thn, inBlk])
          | (refine AWP.condT ?_ ?_; (focus (simp [go_sem, c1, fb, fl, f0, f1, f7, hA]; done)))
          | (refine AWP.condF ?_ ?_; (focus (simp [go_sem, c1, fb, fl, f0, f1, f7, hA]; done)))
          | (apply AWP.rE; (focus (simp [go_sem, c1, fb, fl, f0, f1, f7, hA]; exact ⟨rfl, rfl⟩)); try dsimp only [thn, inBlk])
          | (apply AWP.dE hmix [.n 0 [5], .n 1 [18], .n 2 [19], .n 3 [20], .n 4 [5], .n 5 [22], .n 6 [23], .n 7 [24], .n 8 [25], .n 9 [21, 26], .n 10 [27], .n 11 [5, 28], .n 12 [29, 28], .n 13 [30, 28], .n 14 [31, 28], .n 15 [32, 28], .n 16 [28, 33]]; (focus kernel_rfl); (focus (simp [go_sem, c1, fb, fl, f0, f1, f7, hA]; exact ⟨rfl, rfl⟩)); try dsimp only [thn, inBlk])
          | (apply AWP.dE hmix [.n 0 [5], .n 1 [35], .n 2 [36], .n 3 [37], .n 4 [38], .n 5 [5], .n 6 [40], .n 7 [41], .n 8 [42], .n 9 [39, 43], .n 10 [44]]; (focus kernel_rfl); (focus (simp [go_sem, c1, fb, fl, f0, f1, f7, hA]; exact ⟨rfl, rfl⟩)); try dsimp only [thn, inBlk])
          | (apply AWP.dE hmix [.n 0 [3], .n 1 [4], .n 2 [], .n 3 [5], .n 4 [60], .n 5 [61], .n 6 [62], .n 7 [5], .n 8 [64], .n 9 [65], .n 10 [66], .n 11 [5], .n 12 [68], .n 13 [69], .n 14 [70], .n 15 [6], .n 16 [71, 72], .n 17 [63, 67, 73], .w 18 [59, 74] [], .n 19 [58, 75], .n 20 [76], .w 21 [57, 77] [], .n 22 [78]]; (focus kernel_rfl); (focus (simp [go_sem, c1, fb, fl, f0, f1, f7, hA]; exact ⟨rfl, rfl⟩)); try dsimp only [thn, inBlk])
          | (apply AWP.dE hmix [.n 0 [5], .n 1 [95], .n 2 [96], .n 3 [97], .n 4 [98], .n 5 [5, 99], .n 6 [100, 99], .n 7 [101, 99], .n 8 [102, 99], .n 9 [103, 99], .n 10 [99, 104], .n 11 [105], .n 12 [5, 106], .n 13 [107, 106], .n 14 [108, 106], .n 15 [109, 106], .n 16 [5, 106], .n 17 [111, 106], .n 18 [112, 106], .n 19 [113, 106], .n 20 [114, 106], .n 21 [110, 115, 106], .n 22 [106, 116]]; (focus kernel_rfl); (focus (simp [go_sem, c1, fb, fl, f0, f1, f7, hA]; exact ⟨rfl, rfl⟩)); try dsimp only [thn, inBlk])
          | (apply AWP.dE hmix [.n 0 [5], .n 1 [128], .n 2 [129], .n 3 [130], .n 4 [5], .n 5 [132], .n 6 [133], .n 7 [134], .n 8 [131, 135]]; (focus kernel_rfl); (focus (simp [go_sem, c1, fb, fl, f0, f1, f7, hA]; exact ⟨rfl, rfl⟩)); try dsimp only [thn, inBlk])
          | (apply AWP.dE hmix [.n 0 [5], .n 1 [137], .n 2 [138], .n 3 [139], .n 4 [5], .n 5 [141], .n 6 [142], .n 7 [143], .n 8 [140, 144], .n 9 [145]]; (focus kernel_rfl); (focus (simp [go_sem, c1, fb, fl, f0, f1, f7, hA]; exact ⟨rfl, rfl⟩)); try dsimp only [thn, inBlk])
          | fail)
        exact ⟨by simp [go_sem, this], rfl⟩
      · have : L = n1 := by omega
        (repeat' first
          | refine AWP.seq ?_
          | refine AWP.block ?_
          | (refine AWP.skip ?_; try dsimp only [thn, inBlk])
          | (refine AWP.exit ?_; try simp only [thn, inBlk, if_true, reduceIte, Nat.reduceEqDiff])
          | (refine AWP.ret ?_; try dsimp only [thn, inBlk])
          | (refine AWP.condT ?_ ?_; (focus (simp [go_sem, c1, fb, fl, f0, f1, f7, hA]; done)))
          | (refine AWP.condF ?_ ?_; (focus (simp [go_sem, c1, fb, fl, f0, f1, f7, hA]; done)))
          | (apply AWP.rE; (focus (simp [go_sem, c1, fb, fl, f0, f1, f7, hA]; exact ⟨rfl, rfl⟩)); try dsimp only [thn, inBlk])
          | (apply AWP.dE hmix [.n 0 [5], .n 1 [18], .n 2 [19], .n 3 [20], .n 4 [5], .n 5 [22], .n 6 [23], .n 7 [24], .n 8 [25], .n 9 [21, 26], .n 10 [27], .n 11 [5, 28], .n 12 [29, 28], .n 13 [30, 28], .n 14 [31, 28], .n 15 [32, 28], .n 16 [28, 33]]; (focus kernel_rfl); (focus (simp [go_sem, c1, fb, fl, f0, f1, f7, hA]; exact ⟨rfl, rfl⟩)); try dsimp only [thn, inBlk])
          | (apply AWP.dE hmix [.n 0 [5], .n 1 [35], .n 2 [36], .n 3 [37], .n 4 [38], .n 5 [5], .n 6 [40], .n 7 [41], .n 8 [42], .n 9 [39, 43], .n 10 [44]]; (focus kernel_rfl); (focus (simp [go_sem, c1, fb, fl, f0, f1, f7, hA]; exact ⟨rfl, rfl⟩)); try dsimp only [thn, inBlk])
          | (apply AWP.dE hmix [.n 0 [3], .n 1 [4], .n 2 [], .n 3 [5], .n 4 [60], .n 5 [61], .n 6 [62], .n 7 [5], .n 8 [64], .n 9 [65], .n 10 [66], .n 11 [5], .n 12 [68], .n 13 [69], .n 14 [70], .n 15 [6], .n 16 [71, 72], .n 17 [63, 67, 73], .w 18 [59, 74] [], .n 19 [58, 75], .n 20 [76], .w 21 [57, 77] [], .n 22 [78]]; (focus kernel_rfl); (focus (simp [go_sem, c1, fb, fl, f0, f1, f7, hA]; exact ⟨rfl, rfl⟩)); try dsimp only [thn, inBlk])
          | (apply AWP.dE hmix [.n 0 [5], .n 1 [95], .n 2 [96], .n 3 [97], .n 4 [98], .n 5 [5, 99], .n 6 [100, 99], .n 7 [101, 99], .n 8 [102, 99], .n 9 [103, 99], .n 10 [99, 104], .n 11 [105], .n 12 [5, 106], .n 13 [107, 106], .n 14 [108, 106], .n 15 [109, 106], .n 16 [5, 106], .n 17 [111, 106], .n 18 [112, 106], .n 19 [113, 106], .n 20 [114, 106], .n 21 [110, 115, 106], .n 22 [106, 116]]; (focus kernel_rfl); (focus (simp [go_sem, c1, fb, fl, f0, f1, f7, hA]; exact ⟨rfl, rfl⟩)); try dsimp only [thn, inBlk])
          | (apply AWP.dE hmix [.n 0 [5], .n 1 [128], .n 2 [129], .n 3 [130], .n 4 [5], .n 5 [132], .n 6 [133], .n 7 [134], .n 8 [131, 135]]; (focus kernel_rfl); (focus (simp [go_sem, c1, fb, fl, f0, f1, f7, hA]; exact ⟨rfl, rfl⟩)); try dsimp only [thn, inBlk])
          | (apply AWP.dE hmix [.n 0 [5], .n 1 [137], .n 2 [138], .n 3 [139], .n 4 [5], .n 5 [141], .n 6 [142], .n 7 [143], .n 8 [140, 144], .n 9 [145]]; (focus kernel_rfl); (focus (simp [go_sem, c1, fb, fl, f0, f1, f7, hA]; exact ⟨rfl, rfl⟩)); try dsimp only [thn, inBlk])
          | fail)
        exact ⟨by simp [go_sem, this], rfl⟩
    rintro s h3 ⟨rfl, rfl⟩
    refine AWP.cut [0, 3, 4, 5, 6] (fun s h'' => s = ⟨167, [(0, ptr b), (3, .slice a2 fs2.length cap2), (4, .int .i64 (j : Nat)), (5, pD b j), (6, .int .i64 (n : Nat))]⟩ ∧ h'' = h3) ?_ ?_
    · by_cases hA : 512 < n1
      · have : n = 512 := by omega
        have hA' : (512 : Int) < n1 := by omega
        (repeat' first
          | refine AWP.seq ?_
          | refine AWP.block ?_
          | (refine AWP.skip ?_; try dsimp only [thn, inBlk])
          | (refine AWP.exit ?_; try simp only [thn, inBlk, if_true, reduceIte, Nat.reduceEqDiff])
          | (refine AWP.ret ?_; try dsimp only [thn, inBlk])
          | (refine AWP.condT ?_ ?_; (focus (simp [go_sem, hA']; done)))
          | (refine AWP.condF ?_ ?_; (focus (simp [go_sem, hA']; done)))
          | (apply AWP.rE; (focus (simp [go_sem, hA']; exact ⟨rfl, rfl⟩)); try dsimp only [thn, inBlk])
          | (apply AWP.dE hmix [.n 0 [5], .n 1 [18], .n 2 [19], .n 3 [20], .n 4 [5], .n 5 [22], .n 6 [23], .n 7 [24], .n 8 [25], .n 9 [21, 26], .n 10 [27], .n 11 [5, 28], .n 12 [29, 28], .n 13 [30, 28], .n 14 [31, 28], .n 15 [32, 28], .n 16 [28, 33]]; (focus kernel_rfl); (focus (simp [go_sem, hA']; exact ⟨rfl, rfl⟩)); try dsimp only [thn, inBlk])
          | (apply AWP.dE hmix [.n 0 [5], .n 1 [35], .n 2 [36], .n 3 [37], .n 4 [38], .n 5 [5], .n 6 [40], .n 7 [41], .n 8 [42], .n 9 [39, 43], .n 10 [44]]; (focus kernel_rfl); (focus (simp [go_sem, hA']; exact ⟨rfl, rfl⟩)); try dsimp only [thn, inBlk])
          | (apply AWP.dE hmix [.n 0 [3], .n 1 [4], .n 2 [], .n 3 [5], .n 4 [60], .n 5 [61], .n 6 [62], .n 7 [5], .n 8 [64], .n 9 [65], .n 10 [66], .n 11 [5], .n 12 [68], .n 13 [69], .n 14 [70], .n 15 [6], .n 16 [71, 72], .n 17 [63, 67, 73], .w 18 [59, 74] [], .n 19 [58, 75], .n 20 [76], .w 21 [57, 77] [], .n 22 [78]]; (focus kernel_rfl); (focus (simp [go_sem, hA']; exact ⟨rfl, rfl⟩)); try dsimp only [thn, inBlk])
          | (apply AWP.dE hmix [.n 0 [5], .n 1 [95], .n 2 [96], .n 3 [97], .n 4 [98], .n 5 [5, 99], .n 6 [100, 99], .n 7 [101, 99], .n 8 [102, 99], .n 9 [103, 99], .n 10 [99, 104], .n 11 [105], .n 12 [5, 106], .n 13 [107, 106], .n 14 [108, 106], .n 15 [109, 106], .n 16 [5, 106], .n 17 [111, 106], .n 18 [112, 106], .n 19 [113, 106], .n 20 [114, 106], .n 21 [110, 115, 106], .n 22 [106, 116]]; (focus kernel_rfl); (focus (simp [go_sem, hA']; exact ⟨rfl, rfl⟩)); try dsimp only [thn, inBlk])
          | (apply AWP.dE hmix [.n 0 [5], .n 1 [128], .n 2 [129], .n 3 [130], .n 4 [5], .n 5 [132], .n 6 [133], .n 7 [134], .n 8 [131, 135]]; (focus kernel_rfl); (focus (simp [go_sem, hA']; exact ⟨rfl, rfl⟩)); try dsimp only [thn, inBlk])
          | (apply AWP.dE hmix [.n 0 [5], .n 1 [137], .n 2 [138], .n 3 [139], .n 4 [5], .n 5 [141], .n 6 [142], .n 7 [143], .n 8 [140, 144], .n 9 [145]]; (focus kernel_rfl); (focus (simp [go_sem, hA']; exact ⟨rfl, rfl⟩)); try dsimp only [thn, inBlk])
          | fail)
        exact ⟨by simp [go_sem, this], rfl⟩
      · have : n = n1 := by omega
        have hA' : ¬ (512 : Int) < n1 := by omega
        (repeat' first
          | refine AWP.seq ?_
          | refine AWP.block ?_
          | (refine AWP.skip ?_; try dsimp only [thn, inBlk])
          | (refine AWP.exit ?_; try simp only [thn, inBlk, if_true, reduceIte, Nat.reduceEqDiff])
          | (refine AWP.ret ?_; try dsimp only [thn, inBlk])
          | (refine AWP.condT ?_ ?_; (focus (simp [go_sem, hA']; done)))
          | (refine AWP.condF ?_ ?_; (focus (simp [go_sem, hA']; done)))
          | (apply AWP.rE; (focus (simp [go_sem, hA']; exact ⟨rfl, rfl⟩)); try dsimp only [thn, inBlk])
          | (apply AWP.dE hmix [.n 0 [5], .n 1 [18], .n 2 [19], .n 3 [20], .n 4 [5], .n 5 [22], .n 6 [23], .n 7 [24], .n 8 [25], .n 9 [21, 26], .n 10 [27], .n 11 [5, 28], .n 12 [29, 28], .n 13 [30, 28], .n 14 [31, 28], .n 15 [32, 28], .n 16 [28, 33]]; (focus kernel_rfl); (focus (simp [go_sem, hA']; exact ⟨rfl, rfl⟩)); try dsimp only [thn, inBlk])
          | (apply AWP.dE hmix [.n 0 [5], .n 1 [35], .n 2 [36], .n 3 [37], .n 4 [38], .n 5 [5], .n 6 [40], .n 7 [41], .n 8 [42], .n 9 [39, 43], .n 10 [44]]; (focus kernel_rfl); (focus (simp [go_sem, hA']; exact ⟨rfl, rfl⟩)); try dsimp only [thn, inBlk])
          | (apply AWP.dE hmix [.n 0 [3], .n 1 [4], .n 2 [], .n 3 [5], .n 4 [60], .n 5 [61], .n 6 [62], .n 7 [5], .n 8 [64], .n 9 [65], .n 10 [66], .n 11 [5], .n 12 [68], .n 13 [69], .n 14 [70], .n 15 [6], .n 16 [71, 72], .n 17 [63, 67, 73], .w 18 [59, 74] [], .n 19 [58, 75], .n 20 [76], .w 21 [57, 77] [], .n 22 [78]]; (focus kernel_rfl); (focus (simp [go_sem, hA']; exact ⟨rfl, rfl⟩)); try dsimp only [thn, inBlk])
          | (apply AWP.dE hmix [.n 0 [5], .n 1 [95], .n 2 [96], .n 3 [97], .n 4 [98], .n 5 [5, 99], .n 6 [100, 99], .n 7 [101, 99], .n 8 [102, 99], .n 9 [103, 99], .n 10 [99, 104], .n 11 [105], .n 12 [5, 106], .n 13 [107, 106], .n 14 [108, 106], .n 15 [109, 106], .n 16 [5, 106], .n 17 [111, 106], .n 18 [112, 106], .n 19 [113, 106], .n 20 [114, 106], .n 21 [110, 115, 106], .n 22 [106, 116]]; (focus kernel_rfl); (focus (simp [go_sem, hA']; exact ⟨rfl, rfl⟩)); try dsimp only [thn, inBlk])
          | (apply AWP.dE hmix [.n 0 [5], .n 1 [128], .n 2 [129], .n 3 [130], .n 4 [5], .n 5 [132], .n 6 [133], .n 7 [134], .n 8 [131, 135]]; (focus kernel_rfl); (focus (simp [go_sem, hA']; exact ⟨rfl, rfl⟩)); try dsimp only [thn, inBlk])
          | (apply AWP.dE hmix [.n 0 [5], .n 1 [137], .n 2 [138], .n 3 [139], .n 4 [5], .n 5 [141], .n 6 [142], .n 7 [143], .n 8 [140, 144], .n 9 [145]]; (focus kernel_rfl); (focus (simp [go_sem, hA']; exact ⟨rfl, rfl⟩)); try dsimp only [thn, inBlk])
          | fail)
        exact ⟨by simp [go_sem, this], rfl⟩
    rintro s h4 ⟨rfl, rfl⟩
    have w2 : IntKind.i64.wrap ((sv : Int) + (n : Int)) = ((sv + n : Nat) : Int) := by rw [wI64 (by omega) (by omega)]; omega
    obtain ⟨s1, hs1'⟩ : ∃ s1, s1 = sv + n := ⟨_, rfl⟩
    rw [← hs1'] at w2
    have kn : Own O _ (ob 5 (.slice (some ⟨h4.next, 0, none⟩) 0 0) [] :: _) := (k2.push (.row [] 5 1 true false)).row_any (n := 0) rfl
    have c2 := kn.tail.tail.obj
    obtain ⟨p1, p2⟩ := (hxj _ kn.tail.tail.tail).piece (P := Try.prog) (t := 28) (e := 5) Try.underlying28 tsz5 (lo := sv) (hi := s1) (by omega) (by omega) (l := some (.int .i64 (sv : Int))) (u := some (.int .i64 (s1 : Int))) (.inr ⟨.i64, rfl⟩) (.inr ⟨.i64, rfl⟩)
    have tk : (x.w.take s1).drop sv = (x.w.drop sv).take n := by
      rw [List.drop_take]; congr 1; omega
    rw [tk] at p2
    have tl : ((x.w.drop sv).take n).length = n := by simp; omega
    obtain ⟨a3, cap3, h5, e3, k3⟩ := kn.appB (P := Try.prog) (t := 28) (xt := 28) Try.underlying28 tsz5 tby5 tz5 nI28 p2.src (by simp; omega)
    simp only [List.length_nil, Nat.zero_add, List.nil_append] at e3 k3
    rw [tl] at e3
    have c3 := k3.tail.tail.obj
    obtain ⟨a5, cap5, h6, e5, k5⟩ := k3.b1.brecs_app (P := Try.prog) (t := 39) (xt := 39) (fs := fs2) (x := (j : Int)) (bs := (x.w.drop sv).take n) (ba := a3) (bc := cap3) (i := h5.next) Try.underlying39 tsz30 tby30 tz30 nI39 (by omega) rfl rfl rfl rfl (by omega)
    rw [tl] at e5
    simp only [pre, List.cons_append, List.nil_append] at e5
    have c5 := k5.tail.obj
    refine AWP.seq ?_
    refine AWP.draw hmix [.n 0 [3], .n 1 [4], .n 2 [], .n 3 [5], .n 4 [60], .n 5 [61], .n 6 [62], .n 7 [5], .n 8 [64], .n 9 [65], .n 10 [66], .n 11 [5], .n 12 [68], .n 13 [69], .n 14 [70], .n 15 [6], .n 16 [71, 72], .n 17 [63, 67, 73], .w 18 [59, 74] [], .n 19 [58, 75], .n 20 [76], .w 21 [57, 77] [], .n 22 [78]] (by kernel_rfl) ?_
    refine awpD_writeR 18 (by rfl) (by rfl) (by simp [go_sem, c1, c2, c3, fl, fb, f0, f1, w2, p1, e3]; exact ⟨rfl, rfl, rfl⟩) (by rfl) (by rfl) (by simp [go_sem]) (by simp [go_sem, c1, c2, c3, fl, fb, f0, f1, w2, p1, e3]; exact ⟨rfl, rfl⟩) (by simp [still, go_sem, c1, c2, c3, fl, fb, f0, f1, w2, p1, e3]) ?_
    refine awpD_writeR 2 (by rfl) (by rfl) (by simp [go_sem, c1, c2, c3, fl, fb, f0, f1, w2, p1, e5]; exact ⟨rfl, rfl, rfl⟩) (by rfl) (by rfl) (by simp [go_sem]) (by simp [go_sem, c1, c2, c3, fl, fb, f0, f1, w2, p1, e5]; exact ⟨rfl, rfl⟩) (by simp [still, go_sem, c1, c2, c3, fl, fb, f0, f1, w2, p1, e5]) ?_
    refine awpD_restR (by rfl) (by simp [go_sem]; exact ⟨rfl, rfl, rfl⟩) ?_; try dsimp only [thn, inBlk]
    have e6 := sd1 q4 hj2 s1
    rw [dg_set hDl, List.set_set] at e6
    obtain ⟨x6, hx6⟩ : ∃ x6 : Dc, x6 = { xx with s := s1 } := ⟨_, rfl⟩
    rw [← hx6] at e6
    have k6 := k5.b1.set (drow (D1.set j x6) ps)
    have q5 : Fr4 (D1.set j x6) ps := kk4.setD x6
    have g7 := (q5.fd hj2).d7
    have fl7 := d_len q5
    rw [dg_set hDl, show x6.cr = cr by rw [hx6, hxx2]] at g7
    have wcr : IntKind.i64.wrap (cr - (n : Int)) = cr - (n : Int) := wI64 (by omega) (by omega)
    have e7 := sd7 q5 hj2 (cr - (n : Int))
    rw [dg_set hDl, List.set_set] at e7
    have ex7 : { x6 with cr := cr - (n : Int) } = { x with s := s1, cr := cr - (n : Int) } := by rw [hx6, hxx2]
    rw [ex7] at e7
    have c6 := k6.obj
    have k7 := k6.set (drow (D1.set j { x with s := s1, cr := cr - (n : Int) }) ps)
    (repeat' first
      | refine AWP.seq ?_
      | refine AWP.block ?_
      | (refine AWP.skip ?_; try dsimp only [thn, inBlk])
      | (refine AWP.exit ?_; try simp only [thn, inBlk, if_true, reduceIte, Nat.reduceEqDiff])
      | (refine AWP.ret ?_; try dsimp only [thn, inBlk])
      | (refine AWP.condT ?_ ?_; (focus (simp [go_sem, c5, fl, fb, f1, w2, e6, c6, fl7, g7, wcr, e7]; done)))
      | (refine AWP.condF ?_ ?_; (focus (simp [go_sem, c5, fl, fb, f1, w2, e6, c6, fl7, g7, wcr, e7]; done)))
      | (apply AWP.rE; (focus (simp [go_sem, c5, fl, fb, f1, w2, e6, c6, fl7, g7, wcr, e7]; exact ⟨rfl, rfl⟩)); try dsimp only [thn, inBlk])
      | (apply AWP.dE hmix [.n 0 [5], .n 1 [18], .n 2 [19], .n 3 [20], .n 4 [5], .n 5 [22], .n 6 [23], .n 7 [24], .n 8 [25], .n 9 [21, 26], .n 10 [27], .n 11 [5, 28], .n 12 [29, 28], .n 13 [30, 28], .n 14 [31, 28], .n 15 [32, 28], .n 16 [28, 33]]; (focus kernel_rfl); (focus (simp [go_sem, c5, fl, fb, f1, w2, e6, c6, fl7, g7, wcr, e7]; exact ⟨rfl, rfl⟩)); try dsimp only [thn, inBlk])
      | (apply AWP.dE hmix [.n 0 [5], .n 1 [35], .n 2 [36], .n 3 [37], .n 4 [38], .n 5 [5], .n 6 [40], .n 7 [41], .n 8 [42], .n 9 [39, 43], .n 10 [44]]; (focus kernel_rfl); (focus (simp [go_sem, c5, fl, fb, f1, w2, e6, c6, fl7, g7, wcr, e7]; exact ⟨rfl, rfl⟩)); try dsimp only [thn, inBlk])
      | (apply AWP.dE hmix [.n 0 [3], .n 1 [4], .n 2 [], .n 3 [5], .n 4 [60], .n 5 [61], .n 6 [62], .n 7 [5], .n 8 [64], .n 9 [65], .n 10 [66], .n 11 [5], .n 12 [68], .n 13 [69], .n 14 [70], .n 15 [6], .n 16 [71, 72], .n 17 [63, 67, 73], .w 18 [59, 74] [], .n 19 [58, 75], .n 20 [76], .w 21 [57, 77] [], .n 22 [78]]; (focus kernel_rfl); (focus (simp [go_sem, c5, fl, fb, f1, w2, e6, c6, fl7, g7, wcr, e7]; exact ⟨rfl, rfl⟩)); try dsimp only [thn, inBlk])
      | (apply AWP.dE hmix [.n 0 [5], .n 1 [95], .n 2 [96], .n 3 [97], .n 4 [98], .n 5 [5, 99], .n 6 [100, 99], .n 7 [101, 99], .n 8 [102, 99], .n 9 [103, 99], .n 10 [99, 104], .n 11 [105], .n 12 [5, 106], .n 13 [107, 106], .n 14 [108, 106], .n 15 [109, 106], .n 16 [5, 106], .n 17 [111, 106], .n 18 [112, 106], .n 19 [113, 106], .n 20 [114, 106], .n 21 [110, 115, 106], .n 22 [106, 116]]; (focus kernel_rfl); (focus (simp [go_sem, c5, fl, fb, f1, w2, e6, c6, fl7, g7, wcr, e7]; exact ⟨rfl, rfl⟩)); try dsimp only [thn, inBlk])
      | (apply AWP.dE hmix [.n 0 [5], .n 1 [128], .n 2 [129], .n 3 [130], .n 4 [5], .n 5 [132], .n 6 [133], .n 7 [134], .n 8 [131, 135]]; (focus kernel_rfl); (focus (simp [go_sem, c5, fl, fb, f1, w2, e6, c6, fl7, g7, wcr, e7]; exact ⟨rfl, rfl⟩)); try dsimp only [thn, inBlk])
      | (apply AWP.dE hmix [.n 0 [5], .n 1 [137], .n 2 [138], .n 3 [139], .n 4 [5], .n 5 [141], .n 6 [142], .n 7 [143], .n 8 [140, 144], .n 9 [145]]; (focus kernel_rfl); (focus (simp [go_sem, c5, fl, fb, f1, w2, e6, c6, fl7, g7, wcr, e7]; exact ⟨rfl, rfl⟩)); try dsimp only [thn, inBlk])
      | fail)
    have st := mcut_step (ch := j) (w := x.w.drop sv) (cr := cr) ⟨by simp; omega, q2⟩ (n := n) (by simp; omega)
    rw [List.drop_drop, ← hs1'] at st
    refine ⟨x.w.length - s1, by omega, s1, cr - n, fs2 ++ [((j : Int), (x.w.drop sv).take n)], a5, cap5, rfl, by simp [go_sem], ?_, ?_, by omega, by omega, by omega, by omega, by simp; omega, ?_⟩
    · rw [hw1, st]; simp
    · rw [hw2, st]
    · rw [List.length_append]; exact k7.b1
  have hst := mcut_stop (ch := j) (w := x.w.drop sv) (cr := cr) (by simp; omega)
  rw [hst] at hw1 hw2
  simp only [List.append_nil] at hw1
  obtain ⟨e, he⟩ : ∃ e, e = mend (hfo x) (x.w.drop sv) := ⟨_, rfl⟩
  obtain ⟨E, hE⟩ : ∃ E : List Fr, E = if e then [toldF 2 j 0] else [] := ⟨_, rfl⟩
  have hEl : E.length ≤ 1 := by rw [hE]; split <;> simp
  obtain ⟨D3, hD3⟩ : ∃ D3, D3 = D1.set j { x with s := sv, cr := cr, told := x.told || e } := ⟨_, rfl⟩
  obtain ⟨fs3, hfs3⟩ : ∃ fs3, fs3 = fs2 ++ E := ⟨_, rfl⟩
  have hfl3 : fs3.length ≤ fs2.length + 1 := by rw [hfs3]; simp; omega
  have hsl : x.w.length - (x.w.drop sv).length = sv := by simp; omega
  have eM : dout1 D1 j = (M.1 ++ (E ++ (if x.sd < x.r then [toldF 1 j (x.r - x.sd)] else [])), D1.set j { x with s := sv, cr := cr, told := x.told || e, sd := x.r }) := by
    simp only [dout1, ← hxx, ← hM, hw2, hsl, ← he, hE]
  have eN1 : (doutN D j1).1 = fs3 ++ (if x.sd < x.r then [toldF 1 j (x.r - x.sd)] else []) := by
    rw [hfs3, eN, eM, ← hw1]; simp [List.append_assoc]
  have eN2 : (doutN D j1).2 = D1.set j { x with s := sv, cr := cr, told := x.told || e, sd := x.r } := by rw [eN, eM]
  have hD3f : e = false → D3 = D1.set j xx := fun h => by rw [hD3, h, hxx2]; simp
  have q43 : Fr4 D3 ps := by rw [hD3]; exact kk4.setD _
  have hD3g : dg D3 j = { x with s := sv, cr := cr, told := x.told || e } := by rw [hD3, dg_set hDl]
  by_cases q1 : sv < x.w.length
  · have q1' : (sv : Int) < (x.w.length : Int) := by omega
    have q2 : ¬ 0 < cr := fun h => hgo ⟨by omega, h⟩
    have q3 : ((sv : Int) == (x.w.length : Int)) = false := by simp; omega
    have hef : e = false := by
      rw [he, mend]
      have : (x.w.drop sv).isEmpty = false := by
        rw [Bool.eq_false_iff]; intro hh
        rw [List.isEmpty_iff, List.drop_eq_nil_iff] at hh; omega
      rw [this]; simp
    (repeat' first
      | refine AWP.seq ?_
      | refine AWP.block ?_
      | (refine AWP.skip ?_; try dsimp only [thn, inBlk])
      | (refine AWP.exit ?_; try simp only [thn, inBlk, if_true, reduceIte, Nat.reduceEqDiff])
      | (refine AWP.ret ?_; try dsimp only [thn, inBlk])
      | (refine AWP.condT ?_ ?_; (focus (simp [go_sem, c1, fb, fl, f0, f1, f7, q1', q2]; done)))
      | (refine AWP.condF ?_ ?_; (focus (simp [go_sem, c1, fb, fl, f0, f1, f7, q1', q2]; done)))
      | (apply AWP.rE; (focus (simp [go_sem, c1, fb, fl, f0, f1, f7, q1', q2]; exact ⟨rfl, rfl⟩)); try dsimp only [thn, inBlk])
      | (apply AWP.dE hmix [.n 0 [5], .n 1 [18], .n 2 [19], .n 3 [20], .n 4 [5], .n 5 [22], .n 6 [23], .n 7 [24], .n 8 [25], .n 9 [21, 26], .n 10 [27], .n 11 [5, 28], .n 12 [29, 28], .n 13 [30, 28], .n 14 [31, 28], .n 15 [32, 28], .n 16 [28, 33]]; (focus kernel_rfl); (focus (simp [go_sem, c1, fb, fl, f0, f1, f7, q1', q2]; exact ⟨rfl, rfl⟩)); try dsimp only [thn, inBlk])
      | (apply AWP.dE hmix [.n 0 [5], .n 1 [35], .n 2 [36], .n 3 [37], .n 4 [38], .n 5 [5], .n 6 [40], .n 7 [41], .n 8 [42], .n 9 [39, 43], .n 10 [44]]; (focus kernel_rfl); (focus (simp [go_sem, c1, fb, fl, f0, f1, f7, q1', q2]; exact ⟨rfl, rfl⟩)); try dsimp only [thn, inBlk])
      | (apply AWP.dE hmix [.n 0 [3], .n 1 [4], .n 2 [], .n 3 [5], .n 4 [60], .n 5 [61], .n 6 [62], .n 7 [5], .n 8 [64], .n 9 [65], .n 10 [66], .n 11 [5], .n 12 [68], .n 13 [69], .n 14 [70], .n 15 [6], .n 16 [71, 72], .n 17 [63, 67, 73], .w 18 [59, 74] [], .n 19 [58, 75], .n 20 [76], .w 21 [57, 77] [], .n 22 [78]]; (focus kernel_rfl); (focus (simp [go_sem, c1, fb, fl, f0, f1, f7, q1', q2]; exact ⟨rfl, rfl⟩)); try dsimp only [thn, inBlk])
      | (apply AWP.dE hmix [.n 0 [5], .n 1 [95], .n 2 [96], .n 3 [97], .n 4 [98], .n 5 [5, 99], .n 6 [100, 99], .n 7 [101, 99], .n 8 [102, 99], .n 9 [103, 99], .n 10 [99, 104], .n 11 [105], .n 12 [5, 106], .n 13 [107, 106], .n 14 [108, 106], .n 15 [109, 106], .n 16 [5, 106], .n 17 [111, 106], .n 18 [112, 106], .n 19 [113, 106], .n 20 [114, 106], .n 21 [110, 115, 106], .n 22 [106, 116]]; (focus kernel_rfl); (focus (simp [go_sem, c1, fb, fl, f0, f1, f7, q1', q2]; exact ⟨rfl, rfl⟩)); try dsimp only [thn, inBlk])
      | (apply AWP.dE hmix [.n 0 [5], .n 1 [128], .n 2 [129], .n 3 [130], .n 4 [5], .n 5 [132], .n 6 [133], .n 7 [134], .n 8 [131, 135]]; (focus kernel_rfl); (focus (simp [go_sem, c1, fb, fl, f0, f1, f7, q1', q2]; exact ⟨rfl, rfl⟩)); try dsimp only [thn, inBlk])
      | (apply AWP.dE hmix [.n 0 [5], .n 1 [137], .n 2 [138], .n 3 [139], .n 4 [5], .n 5 [141], .n 6 [142], .n 7 [143], .n 8 [140, 144], .n 9 [145]]; (focus kernel_rfl); (focus (simp [go_sem, c1, fb, fl, f0, f1, f7, q1', q2]; exact ⟨rfl, rfl⟩)); try dsimp only [thn, inBlk])
      | fail)
    refine AWP.cut2 [0, 3, 4, 5] (fun s h'' => ∃ a cap, s = ⟨167, [(0, ptr b), (3, .slice a fs3.length cap), (4, .int .i64 (j : Nat)), (5, pD b j)]⟩ ∧ Own O h'' (frs (.slice a fs3.length cap) fs3 :: cell b (drow D3 ps) :: R)) ?_ ?_
    · have hE0 : E = [] := by rw [hE, hef]; rfl
      rw [hD3f hef, hfs3, hE0, List.append_nil]
      cases hcl : x.closed <;> rw [hcl] at f2
      · (repeat' first
          | refine AWP.seq ?_
          | refine AWP.block ?_
          | (refine AWP.skip ?_; try dsimp only [thn, inBlk])
          | (refine AWP.exit ?_; try simp only [thn, inBlk, if_true, reduceIte, Nat.reduceEqDiff])
          | (refine AWP.ret ?_; try dsimp only [thn, inBlk])
          | (refine AWP.condT ?_ ?_; (focus (simp [go_sem, c1, fb, fl, f2]; done)))
          | (refine AWP.condF ?_ ?_; (focus (simp [go_sem, c1, fb, fl, f2]; done)))
          | (apply AWP.rE; (focus (simp [go_sem, c1, fb, fl, f2]; exact ⟨rfl, rfl⟩)); try dsimp only [thn, inBlk])
          | (apply AWP.dE hmix [.n 0 [5], .n 1 [18], .n 2 [19], .n 3 [20], .n 4 [5], .n 5 [22], .n 6 [23], .n 7 [24], .n 8 [25], .n 9 [21, 26], .n 10 [27], .n 11 [5, 28], .n 12 [29, 28], .n 13 [30, 28], .n 14 [31, 28], .n 15 [32, 28], .n 16 [28, 33]]; (focus kernel_rfl); (focus (simp [go_sem, c1, fb, fl, f2]; exact ⟨rfl, rfl⟩)); try dsimp only [thn, inBlk])
          | (apply AWP.dE hmix [.n 0 [5], .n 1 [35], .n 2 [36], .n 3 [37], .n 4 [38], .n 5 [5], .n 6 [40], .n 7 [41], .n 8 [42], .n 9 [39, 43], .n 10 [44]]; (focus kernel_rfl); (focus (simp [go_sem, c1, fb, fl, f2]; exact ⟨rfl, rfl⟩)); try dsimp only [thn, inBlk])
          | (apply AWP.dE hmix [.n 0 [3], .n 1 [4], .n 2 [], .n 3 [5], .n 4 [60], .n 5 [61], .n 6 [62], .n 7 [5], .n 8 [64], .n 9 [65], .n 10 [66], .n 11 [5], .n 12 [68], .n 13 [69], .n 14 [70], .n 15 [6], .n 16 [71, 72], .n 17 [63, 67, 73], .w 18 [59, 74] [], .n 19 [58, 75], .n 20 [76], .w 21 [57, 77] [], .n 22 [78]]; (focus kernel_rfl); (focus (simp [go_sem, c1, fb, fl, f2]; exact ⟨rfl, rfl⟩)); try dsimp only [thn, inBlk])
          | (apply AWP.dE hmix [.n 0 [5], .n 1 [95], .n 2 [96], .n 3 [97], .n 4 [98], .n 5 [5, 99], .n 6 [100, 99], .n 7 [101, 99], .n 8 [102, 99], .n 9 [103, 99], .n 10 [99, 104], .n 11 [105], .n 12 [5, 106], .n 13 [107, 106], .n 14 [108, 106], .n 15 [109, 106], .n 16 [5, 106], .n 17 [111, 106], .n 18 [112, 106], .n 19 [113, 106], .n 20 [114, 106], .n 21 [110, 115, 106], .n 22 [106, 116]]; (focus kernel_rfl); (focus (simp [go_sem, c1, fb, fl, f2]; exact ⟨rfl, rfl⟩)); try dsimp only [thn, inBlk])
          | (apply AWP.dE hmix [.n 0 [5], .n 1 [128], .n 2 [129], .n 3 [130], .n 4 [5], .n 5 [132], .n 6 [133], .n 7 [134], .n 8 [131, 135]]; (focus kernel_rfl); (focus (simp [go_sem, c1, fb, fl, f2]; exact ⟨rfl, rfl⟩)); try dsimp only [thn, inBlk])
          | (apply AWP.dE hmix [.n 0 [5], .n 1 [137], .n 2 [138], .n 3 [139], .n 4 [5], .n 5 [141], .n 6 [142], .n 7 [143], .n 8 [140, 144], .n 9 [145]]; (focus kernel_rfl); (focus (simp [go_sem, c1, fb, fl, f2]; exact ⟨rfl, rfl⟩)); try dsimp only [thn, inBlk])
          | fail)
        exact ⟨a2, cap2, by simp [go_sem], k2⟩
      cases hto : x.told <;> rw [hto] at f3
      · (repeat' first
          | refine AWP.seq ?_
          | refine AWP.block ?_
          | (refine AWP.skip ?_; try dsimp only [thn, inBlk])
          | (refine AWP.exit ?_; try simp only [thn, inBlk, if_true, reduceIte, Nat.reduceEqDiff])
          | (refine AWP.ret ?_; try dsimp only [thn, inBlk])
          | (refine AWP.condT ?_ ?_; (focus (simp [go_sem, c1, fb, fl, f0, f1, f2, f3, q3]; done)))
          | (refine AWP.condF ?_ ?_; (focus (simp [go_sem, c1, fb, fl, f0, f1, f2, f3, q3]; done)))
          | (apply AWP.rE; (focus (simp [go_sem, c1, fb, fl, f0, f1, f2, f3, q3]; exact ⟨rfl, rfl⟩)); try dsimp only [thn, inBlk])
          | (apply AWP.dE hmix [.n 0 [5], .n 1 [18], .n 2 [19], .n 3 [20], .n 4 [5], .n 5 [22], .n 6 [23], .n 7 [24], .n 8 [25], .n 9 [21, 26], .n 10 [27], .n 11 [5, 28], .n 12 [29, 28], .n 13 [30, 28], .n 14 [31, 28], .n 15 [32, 28], .n 16 [28, 33]]; (focus kernel_rfl); (focus (simp [go_sem, c1, fb, fl, f0, f1, f2, f3, q3]; exact ⟨rfl, rfl⟩)); try dsimp only [thn, inBlk])
          | (apply AWP.dE hmix [.n 0 [5], .n 1 [35], .n 2 [36], .n 3 [37], .n 4 [38], .n 5 [5], .n 6 [40], .n 7 [41], .n 8 [42], .n 9 [39, 43], .n 10 [44]]; (focus kernel_rfl); (focus (simp [go_sem, c1, fb, fl, f0, f1, f2, f3, q3]; exact ⟨rfl, rfl⟩)); try dsimp only [thn, inBlk])
          | (apply AWP.dE hmix [.n 0 [3], .n 1 [4], .n 2 [], .n 3 [5], .n 4 [60], .n 5 [61], .n 6 [62], .n 7 [5], .n 8 [64], .n 9 [65], .n 10 [66], .n 11 [5], .n 12 [68], .n 13 [69], .n 14 [70], .n 15 [6], .n 16 [71, 72], .n 17 [63, 67, 73], .w 18 [59, 74] [], .n 19 [58, 75], .n 20 [76], .w 21 [57, 77] [], .n 22 [78]]; (focus kernel_rfl); (focus (simp [go_sem, c1, fb, fl, f0, f1, f2, f3, q3]; exact ⟨rfl, rfl⟩)); try dsimp only [thn, inBlk])
          | (apply AWP.dE hmix [.n 0 [5], .n 1 [95], .n 2 [96], .n 3 [97], .n 4 [98], .n 5 [5, 99], .n 6 [100, 99], .n 7 [101, 99], .n 8 [102, 99], .n 9 [103, 99], .n 10 [99, 104], .n 11 [105], .n 12 [5, 106], .n 13 [107, 106], .n 14 [108, 106], .n 15 [109, 106], .n 16 [5, 106], .n 17 [111, 106], .n 18 [112, 106], .n 19 [113, 106], .n 20 [114, 106], .n 21 [110, 115, 106], .n 22 [106, 116]]; (focus kernel_rfl); (focus (simp [go_sem, c1, fb, fl, f0, f1, f2, f3, q3]; exact ⟨rfl, rfl⟩)); try dsimp only [thn, inBlk])
          | (apply AWP.dE hmix [.n 0 [5], .n 1 [128], .n 2 [129], .n 3 [130], .n 4 [5], .n 5 [132], .n 6 [133], .n 7 [134], .n 8 [131, 135]]; (focus kernel_rfl); (focus (simp [go_sem, c1, fb, fl, f0, f1, f2, f3, q3]; exact ⟨rfl, rfl⟩)); try dsimp only [thn, inBlk])
          | (apply AWP.dE hmix [.n 0 [5], .n 1 [137], .n 2 [138], .n 3 [139], .n 4 [5], .n 5 [141], .n 6 [142], .n 7 [143], .n 8 [140, 144], .n 9 [145]]; (focus kernel_rfl); (focus (simp [go_sem, c1, fb, fl, f0, f1, f2, f3, q3]; exact ⟨rfl, rfl⟩)); try dsimp only [thn, inBlk])
          | fail)
        exact ⟨a2, cap2, by simp [go_sem], k2⟩
      · (repeat' first
          | refine AWP.seq ?_
          | refine AWP.block ?_
          | (refine AWP.skip ?_; try dsimp only [thn, inBlk])
          | (refine AWP.exit ?_; try simp only [thn, inBlk, if_true, reduceIte, Nat.reduceEqDiff])
          | (refine AWP.ret ?_; try dsimp only [thn, inBlk])
          | (refine AWP.condT ?_ ?_; (focus (simp [go_sem, c1, fb, fl, f2, f3]; done)))
          | (refine AWP.condF ?_ ?_; (focus (simp [go_sem, c1, fb, fl, f2, f3]; done)))
          | (apply AWP.rE; (focus (simp [go_sem, c1, fb, fl, f2, f3]; exact ⟨rfl, rfl⟩)); try dsimp only [thn, inBlk])
          | (apply AWP.dE hmix [.n 0 [5], .n 1 [18], .n 2 [19], .n 3 [20], .n 4 [5], .n 5 [22], .n 6 [23], .n 7 [24], .n 8 [25], .n 9 [21, 26], .n 10 [27], .n 11 [5, 28], .n 12 [29, 28], .n 13 [30, 28], .n 14 [31, 28], .n 15 [32, 28], .n 16 [28, 33]]; (focus kernel_rfl); (focus (simp [go_sem, c1, fb, fl, f2, f3]; exact ⟨rfl, rfl⟩)); try dsimp only [thn, inBlk])
          | (apply AWP.dE hmix [.n 0 [5], .n 1 [35], .n 2 [36], .n 3 [37], .n 4 [38], .n 5 [5], .n 6 [40], .n 7 [41], .n 8 [42], .n 9 [39, 43], .n 10 [44]]; (focus kernel_rfl); (focus (simp [go_sem, c1, fb, fl, f2, f3]; exact ⟨rfl, rfl⟩)); try dsimp only [thn, inBlk])
          | (apply AWP.dE hmix [.n 0 [3], .n 1 [4], .n 2 [], .n 3 [5], .n 4 [60], .n 5 [61], .n 6 [62], .n 7 [5], .n 8 [64], .n 9 [65], .n 10 [66], .n 11 [5], .n 12 [68], .n 13 [69], .n 14 [70], .n 15 [6], .n 16 [71, 72], .n 17 [63, 67, 73], .w 18 [59, 74] [], .n 19 [58, 75], .n 20 [76], .w 21 [57, 77] [], .n 22 [78]]; (focus kernel_rfl); (focus (simp [go_sem, c1, fb, fl, f2, f3]; exact ⟨rfl, rfl⟩)); try dsimp only [thn, inBlk])
          | (apply AWP.dE hmix [.n 0 [5], .n 1 [95], .n 2 [96], .n 3 [97], .n 4 [98], .n 5 [5, 99], .n 6 [100, 99], .n 7 [101, 99], .n 8 [102, 99], .n 9 [103, 99], .n 10 [99, 104], .n 11 [105], .n 12 [5, 106], .n 13 [107, 106], .n 14 [108, 106], .n 15 [109, 106], .n 16 [5, 106], .n 17 [111, 106], .n 18 [112, 106], .n 19 [113, 106], .n 20 [114, 106], .n 21 [110, 115, 106], .n 22 [106, 116]]; (focus kernel_rfl); (focus (simp [go_sem, c1, fb, fl, f2, f3]; exact ⟨rfl, rfl⟩)); try dsimp only [thn, inBlk])
          | (apply AWP.dE hmix [.n 0 [5], .n 1 [128], .n 2 [129], .n 3 [130], .n 4 [5], .n 5 [132], .n 6 [133], .n 7 [134], .n 8 [131, 135]]; (focus kernel_rfl); (focus (simp [go_sem, c1, fb, fl, f2, f3]; exact ⟨rfl, rfl⟩)); try dsimp only [thn, inBlk])
          | (apply AWP.dE hmix [.n 0 [5], .n 1 [137], .n 2 [138], .n 3 [139], .n 4 [5], .n 5 [141], .n 6 [142], .n 7 [143], .n 8 [140, 144], .n 9 [145]]; (focus kernel_rfl); (focus (simp [go_sem, c1, fb, fl, f2, f3]; exact ⟨rfl, rfl⟩)); try dsimp only [thn, inBlk])
          | fail)
        exact ⟨a2, cap2, by simp [go_sem], k2⟩
    rintro s h5 ⟨a5, cap5, rfl, k5⟩
    have g5 := q43.fd hj2
    have fl5 := d_len q43
    have r5 := g5.d5
    have u5 := g5.d6
    have d5 := k5.tail.obj
    rw [hD3g] at r5 u5
    simp only at r5 u5
    by_cases hu : x.sd < x.r
    rotate_left
    · have hu' : ¬ (x.sd : Int) < (x.r : Int) := by omega
      rw [if_neg hu, List.append_nil] at eN1
      have hsr : x.r = x.sd := by omega
      have eD : (doutN D j1).2 = D3 := by rw [eN2, hD3, hsr]
      (repeat' first
        | refine AWP.seq ?_
        | refine AWP.block ?_
        | (refine AWP.skip ?_; try dsimp only [thn, inBlk])
        | (refine AWP.exit ?_; try simp only [thn, inBlk, if_true, reduceIte, Nat.reduceEqDiff])
        | (refine AWP.ret ?_; try dsimp only [thn, inBlk])
        | (refine AWP.condT ?_ ?_; (focus (simp [go_sem, d5, fb, fl5, u5, r5, hu', wj]; done)))
        | (refine AWP.condF ?_ ?_; (focus (simp [go_sem, d5, fb, fl5, u5, r5, hu', wj]; done)))
        | (apply AWP.rE; (focus (simp [go_sem, d5, fb, fl5, u5, r5, hu', wj]; exact ⟨rfl, rfl⟩)); try dsimp only [thn, inBlk])
        | (apply AWP.dE hmix [.n 0 [5], .n 1 [18], .n 2 [19], .n 3 [20], .n 4 [5], .n 5 [22], .n 6 [23], .n 7 [24], .n 8 [25], .n 9 [21, 26], .n 10 [27], .n 11 [5, 28], .n 12 [29, 28], .n 13 [30, 28], .n 14 [31, 28], .n 15 [32, 28], .n 16 [28, 33]]; (focus kernel_rfl); (focus (simp [go_sem, d5, fb, fl5, u5, r5, hu', wj]; exact ⟨rfl, rfl⟩)); try dsimp only [thn, inBlk])
        | (apply AWP.dE hmix [.n 0 [5], .n 1 [35], .n 2 [36], .n 3 [37], .n 4 [38], .n 5 [5], .n 6 [40], .n 7 [41], .n 8 [42], .n 9 [39, 43], .n 10 [44]]; (focus kernel_rfl); (focus (simp [go_sem, d5, fb, fl5, u5, r5, hu', wj]; exact ⟨rfl, rfl⟩)); try dsimp only [thn, inBlk])
        | (apply AWP.dE hmix [.n 0 [3], .n 1 [4], .n 2 [], .n 3 [5], .n 4 [60], .n 5 [61], .n 6 [62], .n 7 [5], .n 8 [64], .n 9 [65], .n 10 [66], .n 11 [5], .n 12 [68], .n 13 [69], .n 14 [70], .n 15 [6], .n 16 [71, 72], .n 17 [63, 67, 73], .w 18 [59, 74] [], .n 19 [58, 75], .n 20 [76], .w 21 [57, 77] [], .n 22 [78]]; (focus kernel_rfl); (focus (simp [go_sem, d5, fb, fl5, u5, r5, hu', wj]; exact ⟨rfl, rfl⟩)); try dsimp only [thn, inBlk])
        | (apply AWP.dE hmix [.n 0 [5], .n 1 [95], .n 2 [96], .n 3 [97], .n 4 [98], .n 5 [5, 99], .n 6 [100, 99], .n 7 [101, 99], .n 8 [102, 99], .n 9 [103, 99], .n 10 [99, 104], .n 11 [105], .n 12 [5, 106], .n 13 [107, 106], .n 14 [108, 106], .n 15 [109, 106], .n 16 [5, 106], .n 17 [111, 106], .n 18 [112, 106], .n 19 [113, 106], .n 20 [114, 106], .n 21 [110, 115, 106], .n 22 [106, 116]]; (focus kernel_rfl); (focus (simp [go_sem, d5, fb, fl5, u5, r5, hu', wj]; exact ⟨rfl, rfl⟩)); try dsimp only [thn, inBlk])
        | (apply AWP.dE hmix [.n 0 [5], .n 1 [128], .n 2 [129], .n 3 [130], .n 4 [5], .n 5 [132], .n 6 [133], .n 7 [134], .n 8 [131, 135]]; (focus kernel_rfl); (focus (simp [go_sem, d5, fb, fl5, u5, r5, hu', wj]; exact ⟨rfl, rfl⟩)); try dsimp only [thn, inBlk])
        | (apply AWP.dE hmix [.n 0 [5], .n 1 [137], .n 2 [138], .n 3 [139], .n 4 [5], .n 5 [141], .n 6 [142], .n 7 [143], .n 8 [140, 144], .n 9 [145]]; (focus kernel_rfl); (focus (simp [go_sem, d5, fb, fl5, u5, r5, hu', wj]; exact ⟨rfl, rfl⟩)); try dsimp only [thn, inBlk])
        | fail)
      exact ⟨4 - j1, by omega, j1, a5, cap5, by omega, rfl, by rw [eN1]; simp [go_sem], by rw [eN1, eD]; exact k5⟩
    · have hu' : (x.sd : Int) < (x.r : Int) := by omega
      rw [if_pos hu] at eN1
      obtain ⟨un, hun⟩ : ∃ un : Nat, un = x.r - x.sd := ⟨_, rfl⟩
      rw [← hun] at eN1
      have wun : IntKind.i64.wrap ((x.r : Int) - (x.sd : Int)) = (un : Int) := by rw [wI64 (by omega) (by omega)]; omega
      obtain ⟨qq, hqq⟩ : ∃ qq, qq = un / 256 := ⟨_, rfl⟩
      obtain ⟨rr, hrr⟩ : ∃ rr, rr = un % 256 := ⟨_, rfl⟩
      have wq : (un : Int).tdiv 256 = (qq : Int) := by rw [hqq]; rfl
      have wr : (un : Int).tmod 256 = (rr : Int) := by rw [hrr]; rfl
      have wq2 : IntKind.i64.wrap (qq : Int) = qq := wI64 (by omega) (by omega)
      have wr2 : IntKind.i64.wrap (rr : Int) = rr := wI64 (by omega) (by omega)
      have v1 : IntKind.u8.wrap (j : Int) = ((UInt8.ofNat j).toNat : Nat) := by rw [wU8 (by omega) (by omega)]; simp [UInt8.toNat_ofNat]; omega
      have v2 : IntKind.u8.wrap (qq : Int) = ((UInt8.ofNat qq).toNat : Nat) := by rw [wU8 (by omega) (by omega)]; simp [UInt8.toNat_ofNat]; omega
      have v3 : IntKind.u8.wrap (rr : Int) = ((UInt8.ofNat rr).toNat : Nat) := by rw [wU8 (by omega) (by omega)]; simp [UInt8.toNat_ofNat]; omega
      have htf : toldF 1 j un = (4, [1, UInt8.ofNat j, UInt8.ofNat qq, UInt8.ofNat rr]) := by rw [toldF, hqq, hrr]; rfl
      obtain ⟨x1, hx1⟩ : ∃ x, x = UInt8.ofNat j := ⟨_, rfl⟩
      obtain ⟨x2, hx2⟩ : ∃ x, x = UInt8.ofNat qq := ⟨_, rfl⟩
      obtain ⟨x3, hx3⟩ : ∃ x, x = UInt8.ofNat rr := ⟨_, rfl⟩
      rw [← hx1] at v1
      rw [← hx2] at v2
      rw [← hx3] at v3
      rw [← hx1, ← hx2, ← hx3] at htf
      have k6 : Own O _ (ob 5 (.slice (some ⟨h5.next, 0, none⟩) 4 4) [1, x1, x2, x3] :: _) := (k5.push (.row [.int .u8 1, .int .u8 x1.toNat, .int .u8 x2.toNat, .int .u8 x3.toNat] 5 1 true false)).row_any (n := 4) rfl
      obtain ⟨a7, cap7, h7, e7, k7⟩ := k6.b1.brecs_app (P := Try.prog) (t := 39) (xt := 39) (fs := fs3) (x := (4 : Int)) (bs := [1, x1, x2, x3]) (ba := some ⟨h5.next, 0, none⟩) (bc := 4) (i := h5.next + 1) Try.underlying39 tsz30 tby30 tz30 nI39 (by omega) rfl rfl rfl rfl (by omega)
      simp only [pre, List.cons_append, List.nil_append] at e7
      rw [show ([1, x1, x2, x3] : List UInt8).length = 4 from rfl] at e7
      have d7 := k7.tail.obj
      have e8 := sd6 q43 hj2 x.r
      rw [hD3g] at e8
      have eD : D3.set j { x with s := sv, cr := cr, told := x.told || e, sd := x.r } = (doutN D j1).2 := by rw [eN2, hD3, List.set_set]
      rw [eD] at e8
      have k8 := k7.b1.set (drow (doutN D j1).2 ps)
      (repeat' first
        | refine AWP.seq ?_
        | refine AWP.block ?_
        | (refine AWP.skip ?_; try dsimp only [thn, inBlk])
        | (refine AWP.exit ?_; try simp only [thn, inBlk, if_true, reduceIte, Nat.reduceEqDiff])
        | (refine AWP.ret ?_; try dsimp only [thn, inBlk])
        | (refine AWP.condT ?_ ?_; (focus (simp [go_sem, d5, fb, fl5, u5, r5, hu', wun, wq, wr, wq2, wr2, v1, v2, v3, e7, d7, e8, wj]; done)))
        | (refine AWP.condF ?_ ?_; (focus (simp [go_sem, d5, fb, fl5, u5, r5, hu', wun, wq, wr, wq2, wr2, v1, v2, v3, e7, d7, e8, wj]; done)))
        | (apply AWP.rE; (focus (simp [go_sem, d5, fb, fl5, u5, r5, hu', wun, wq, wr, wq2, wr2, v1, v2, v3, e7, d7, e8, wj]; exact ⟨rfl, rfl⟩)); try dsimp only [thn, inBlk])
        | (apply AWP.dE hmix [.n 0 [5], .n 1 [18], .n 2 [19], .n 3 [20], .n 4 [5], .n 5 [22], .n 6 [23], .n 7 [24], .n 8 [25], .n 9 [21, 26], .n 10 [27], .n 11 [5, 28], .n 12 [29, 28], .n 13 [30, 28], .n 14 [31, 28], .n 15 [32, 28], .n 16 [28, 33]]; (focus kernel_rfl); (focus (simp [go_sem, d5, fb, fl5, u5, r5, hu', wun, wq, wr, wq2, wr2, v1, v2, v3, e7, d7, e8, wj]; exact ⟨rfl, rfl⟩)); try dsimp only [thn, inBlk])
        | (apply AWP.dE hmix [.n 0 [5], .n 1 [35], .n 2 [36], .n 3 [37], .n 4 [38], .n 5 [5], .n 6 [40], .n 7 [41], .n 8 [42], .n 9 [39, 43], .n 10 [44]]; (focus kernel_rfl); (focus (simp [go_sem, d5, fb, fl5, u5, r5, hu', wun, wq, wr, wq2, wr2, v1, v2, v3, e7, d7, e8, wj]; exact ⟨rfl, rfl⟩)); try dsimp only [thn, inBlk])
        | (apply AWP.dE hmix [.n 0 [3], .n 1 [4], .n 2 [], .n 3 [5], .n 4 [60], .n 5 [61], .n 6 [62], .n 7 [5], .n 8 [64], .n 9 [65], .n 10 [66], .n 11 [5], .n 12 [68], .n 13 [69], .n 14 [70], .n 15 [6], .n 16 [71, 72], .n 17 [63, 67, 73], .w 18 [59, 74] [], .n 19 [58, 75], .n 20 [76], .w 21 [57, 77] [], .n 22 [78]]; (focus kernel_rfl); (focus (simp [go_sem, d5, fb, fl5, u5, r5, hu', wun, wq, wr, wq2, wr2, v1, v2, v3, e7, d7, e8, wj]; exact ⟨rfl, rfl⟩)); try dsimp only [thn, inBlk])
        | (apply AWP.dE hmix [.n 0 [5], .n 1 [95], .n 2 [96], .n 3 [97], .n 4 [98], .n 5 [5, 99], .n 6 [100, 99], .n 7 [101, 99], .n 8 [102, 99], .n 9 [103, 99], .n 10 [99, 104], .n 11 [105], .n 12 [5, 106], .n 13 [107, 106], .n 14 [108, 106], .n 15 [109, 106], .n 16 [5, 106], .n 17 [111, 106], .n 18 [112, 106], .n 19 [113, 106], .n 20 [114, 106], .n 21 [110, 115, 106], .n 22 [106, 116]]; (focus kernel_rfl); (focus (simp [go_sem, d5, fb, fl5, u5, r5, hu', wun, wq, wr, wq2, wr2, v1, v2, v3, e7, d7, e8, wj]; exact ⟨rfl, rfl⟩)); try dsimp only [thn, inBlk])
        | (apply AWP.dE hmix [.n 0 [5], .n 1 [128], .n 2 [129], .n 3 [130], .n 4 [5], .n 5 [132], .n 6 [133], .n 7 [134], .n 8 [131, 135]]; (focus kernel_rfl); (focus (simp [go_sem, d5, fb, fl5, u5, r5, hu', wun, wq, wr, wq2, wr2, v1, v2, v3, e7, d7, e8, wj]; exact ⟨rfl, rfl⟩)); try dsimp only [thn, inBlk])
        | (apply AWP.dE hmix [.n 0 [5], .n 1 [137], .n 2 [138], .n 3 [139], .n 4 [5], .n 5 [141], .n 6 [142], .n 7 [143], .n 8 [140, 144], .n 9 [145]]; (focus kernel_rfl); (focus (simp [go_sem, d5, fb, fl5, u5, r5, hu', wun, wq, wr, wq2, wr2, v1, v2, v3, e7, d7, e8, wj]; exact ⟨rfl, rfl⟩)); try dsimp only [thn, inBlk])
        | fail)
      refine ⟨4 - j1, by omega, j1, a7, cap7, by omega, rfl, ?_, ?_⟩
      · rw [eN1, htf]; simp [go_sem]
      · rw [eN1, htf, List.length_append]
        exact k8.b1
  have hsv : sv = x.w.length := by omega
  have q1' : ¬ (sv : Int) < (x.w.length : Int) := by omega
  have q3 : ((sv : Int) == (x.w.length : Int)) = true := by simp; omega
  have hdr : x.w.drop sv = [] := by rw [List.drop_eq_nil_iff]; omega
  have hef : e = (x.closed && !x.told) := by rw [he, mend, hdr]; simp [hfo]
  (repeat' first
    | refine AWP.seq ?_
    | refine AWP.block ?_
    | (refine AWP.skip ?_; try dsimp only [thn, inBlk])
    | (refine AWP.exit ?_; try simp only [thn, inBlk, if_true, reduceIte, Nat.reduceEqDiff])
    | (refine AWP.ret ?_; try dsimp only [thn, inBlk])
    | (refine AWP.condT ?_ ?_; (focus (simp [go_sem, c1, fb, fl, f0, f1, q1']; done)))
    | (refine AWP.condF ?_ ?_; (focus (simp [go_sem, c1, fb, fl, f0, f1, q1']; done)))
    | (apply AWP.rE; (focus (simp [go_sem, c1, fb, fl, f0, f1, q1']; exact ⟨rfl, rfl⟩)); try dsimp only [thn, inBlk])
    | (apply AWP.dE hmix [.n 0 [5], .n 1 [18], .n 2 [19], .n 3 [20], .n 4 [5], .n 5 [22], .n 6 [23], .n 7 [24], .n 8 [25], .n 9 [21, 26], .n 10 [27], .n 11 [5, 28], .n 12 [29, 28], .n 13 [30, 28], .n 14 [31, 28], .n 15 [32, 28], .n 16 [28, 33]]; (focus kernel_rfl); (focus (simp [go_sem, c1, fb, fl, f0, f1, q1']; exact ⟨rfl, rfl⟩)); try dsimp only [thn, inBlk])
    | (apply AWP.dE hmix [.n 0 [5], .n 1 [35], .n 2 [36], .n 3 [37], .n 4 [38], .n 5 [5], .n 6 [40], .n 7 [41], .n 8 [42], .n 9 [39, 43], .n 10 [44]]; (focus kernel_rfl); (focus (simp [go_sem, c1, fb, fl, f0, f1, q1']; exact ⟨rfl, rfl⟩)); try dsimp only [thn, inBlk])
    | (apply AWP.dE hmix [.n 0 [3], .n 1 [4], .n 2 [], .n 3 [5], .n 4 [60], .n 5 [61], .n 6 [62], .n 7 [5], .n 8 [64], .n 9 [65], .n 10 [66], .n 11 [5], .n 12 [68], .n 13 [69], .n 14 [70], .n 15 [6], .n 16 [71, 72], .n 17 [63, 67, 73], .w 18 [59, 74] [], .n 19 [58, 75], .n 20 [76], .w 21 [57, 77] [], .n 22 [78]]; (focus kernel_rfl); (focus (simp [go_sem, c1, fb, fl, f0, f1, q1']; exact ⟨rfl, rfl⟩)); try dsimp only [thn, inBlk])
    | (apply AWP.dE hmix [.n 0 [5], .n 1 [95], .n 2 [96], .n 3 [97], .n 4 [98], .n 5 [5, 99], .n 6 [100, 99], .n 7 [101, 99], .n 8 [102, 99], .n 9 [103, 99], .n 10 [99, 104], .n 11 [105], .n 12 [5, 106], .n 13 [107, 106], .n 14 [108, 106], .n 15 [109, 106], .n 16 [5, 106], .n 17 [111, 106], .n 18 [112, 106], .n 19 [113, 106], .n 20 [114, 106], .n 21 [110, 115, 106], .n 22 [106, 116]]; (focus kernel_rfl); (focus (simp [go_sem, c1, fb, fl, f0, f1, q1']; exact ⟨rfl, rfl⟩)); try dsimp only [thn, inBlk])
    | (apply AWP.dE hmix [.n 0 [5], .n 1 [128], .n 2 [129], .n 3 [130], .n 4 [5], .n 5 [132], .n 6 [133], .n 7 [134], .n 8 [131, 135]]; (focus kernel_rfl); (focus (simp [go_sem, c1, fb, fl, f0, f1, q1']; exact ⟨rfl, rfl⟩)); try dsimp only [thn, inBlk])
    | (apply AWP.dE hmix [.n 0 [5], .n 1 [137], .n 2 [138], .n 3 [139], .n 4 [5], .n 5 [141], .n 6 [142], .n 7 [143], .n 8 [140, 144], .n 9 [145]]; (focus kernel_rfl); (focus (simp [go_sem, c1, fb, fl, f0, f1, q1']; exact ⟨rfl, rfl⟩)); try dsimp only [thn, inBlk])
    | fail)
  refine AWP.cut2 [0, 3, 4, 5] (fun s h'' => ∃ a cap, s = ⟨167, [(0, ptr b), (3, .slice a fs3.length cap), (4, .int .i64 (j : Nat)), (5, pD b j)]⟩ ∧ Own O h'' (frs (.slice a fs3.length cap) fs3 :: cell b (drow D3 ps) :: R)) ?_ ?_
  · cases hcl : x.closed <;> rw [hcl] at f2
    · have hef : e = false := by rw [hef, hcl]; rfl
      have hE0 : E = [] := by rw [hE, hef]; rfl
      rw [hD3f hef, hfs3, hE0, List.append_nil]
      (repeat' first
        | refine AWP.seq ?_
        | refine AWP.block ?_
        | (refine AWP.skip ?_; try dsimp only [thn, inBlk])
        | (refine AWP.exit ?_; try simp only [thn, inBlk, if_true, reduceIte, Nat.reduceEqDiff])
        | (refine AWP.ret ?_; try dsimp only [thn, inBlk])
        | (refine AWP.condT ?_ ?_; (focus (simp [go_sem, c1, fb, fl, f2]; done)))
        | (refine AWP.condF ?_ ?_; (focus (simp [go_sem, c1, fb, fl, f2]; done)))
        | (apply AWP.rE; (focus (simp [go_sem, c1, fb, fl, f2]; exact ⟨rfl, rfl⟩)); try dsimp only [thn, inBlk])
        | (apply AWP.dE hmix [.n 0 [5], .n 1 [18], .n 2 [19], .n 3 [20], .n 4 [5], .n 5 [22], .n 6 [23], .n 7 [24], .n 8 [25], .n 9 [21, 26], .n 10 [27], .n 11 [5, 28], .n 12 [29, 28], .n 13 [30, 28], .n 14 [31, 28], .n 15 [32, 28], .n 16 [28, 33]]; (focus kernel_rfl); (focus (simp [go_sem, c1, fb, fl, f2]; exact ⟨rfl, rfl⟩)); try dsimp only [thn, inBlk])
        | (apply AWP.dE hmix [.n 0 [5], .n 1 [35], .n 2 [36], .n 3 [37], .n 4 [38], .n 5 [5], .n 6 [40], .n 7 [41], .n 8 [42], .n 9 [39, 43], .n 10 [44]]; (focus kernel_rfl); (focus (simp [go_sem, c1, fb, fl, f2]; exact ⟨rfl, rfl⟩)); try dsimp only [thn, inBlk])
        | (apply AWP.dE hmix [.n 0 [3], .n 1 [4], .n 2 [], .n 3 [5], .n 4 [60], .n 5 [61], .n 6 [62], .n 7 [5], .n 8 [64], .n 9 [65], .n 10 [66], .n 11 [5], .n 12 [68], .n 13 [69], .n 14 [70], .n 15 [6], .n 16 [71, 72], .n 17 [63, 67, 73], .w 18 [59, 74] [], .n 19 [58, 75], .n 20 [76], .w 21 [57, 77] [], .n 22 [78]]; (focus kernel_rfl); (focus (simp [go_sem, c1, fb, fl, f2]; exact ⟨rfl, rfl⟩)); try dsimp only [thn, inBlk])
        | (apply AWP.dE hmix [.n 0 [5], .n 1 [95], .n 2 [96], .n 3 [97], .n 4 [98], .n 5 [5, 99], .n 6 [100, 99], .n 7 [101, 99], .n 8 [102, 99], .n 9 [103, 99], .n 10 [99, 104], .n 11 [105], .n 12 [5, 106], .n 13 [107, 106], .n 14 [108, 106], .n 15 [109, 106], .n 16 [5, 106], .n 17 [111, 106], .n 18 [112, 106], .n 19 [113, 106], .n 20 [114, 106], .n 21 [110, 115, 106], .n 22 [106, 116]]; (focus kernel_rfl); (focus (simp [go_sem, c1, fb, fl, f2]; exact ⟨rfl, rfl⟩)); try dsimp only [thn, inBlk])
        | (apply AWP.dE hmix [.n 0 [5], .n 1 [128], .n 2 [129], .n 3 [130], .n 4 [5], .n 5 [132], .n 6 [133], .n 7 [134], .n 8 [131, 135]]; (focus kernel_rfl); (focus (simp [go_sem, c1, fb, fl, f2]; exact ⟨rfl, rfl⟩)); try dsimp only [thn, inBlk])
        | (apply AWP.dE hmix [.n 0 [5], .n 1 [137], .n 2 [138], .n 3 [139], .n 4 [5], .n 5 [141], .n 6 [142], .n 7 [143], .n 8 [140, 144], .n 9 [145]]; (focus kernel_rfl); (focus (simp [go_sem, c1, fb, fl, f2]; exact ⟨rfl, rfl⟩)); try dsimp only [thn, inBlk])
        | fail)
      exact ⟨a2, cap2, by simp [go_sem], k2⟩
    cases hto : x.told <;> rw [hto] at f3
    rotate_left
    · have hef : e = false := by rw [hef, hto]; simp
      have hE0 : E = [] := by rw [hE, hef]; rfl
      rw [hD3f hef, hfs3, hE0, List.append_nil]
      (repeat' first
        | refine AWP.seq ?_
        | refine AWP.block ?_
        | (refine AWP.skip ?_; try dsimp only [thn, inBlk])
        | (refine AWP.exit ?_; try simp only [thn, inBlk, if_true, reduceIte, Nat.reduceEqDiff])
        | (refine AWP.ret ?_; try dsimp only [thn, inBlk])
        | (refine AWP.condT ?_ ?_; (focus (simp [go_sem, c1, fb, fl, f2, f3]; done)))
        | (refine AWP.condF ?_ ?_; (focus (simp [go_sem, c1, fb, fl, f2, f3]; done)))
        | (apply AWP.rE; (focus (simp [go_sem, c1, fb, fl, f2, f3]; exact ⟨rfl, rfl⟩)); try dsimp only [thn, inBlk])
        | (apply AWP.dE hmix [.n 0 [5], .n 1 [18], .n 2 [19], .n 3 [20], .n 4 [5], .n 5 [22], .n 6 [23], .n 7 [24], .n 8 [25], .n 9 [21, 26], .n 10 [27], .n 11 [5, 28], .n 12 [29, 28], .n 13 [30, 28], .n 14 [31, 28], .n 15 [32, 28], .n 16 [28, 33]]; (focus kernel_rfl); (focus (simp [go_sem, c1, fb, fl, f2, f3]; exact ⟨rfl, rfl⟩)); try dsimp only [thn, inBlk])
        | (apply AWP.dE hmix [.n 0 [5], .n 1 [35], .n 2 [36], .n 3 [37], .n 4 [38], .n 5 [5], .n 6 [40], .n 7 [41], .n 8 [42], .n 9 [39, 43], .n 10 [44]]; (focus kernel_rfl); (focus (simp [go_sem, c1, fb, fl, f2, f3]; exact ⟨rfl, rfl⟩)); try dsimp only [thn, inBlk])
        | (apply AWP.dE hmix [.n 0 [3], .n 1 [4], .n 2 [], .n 3 [5], .n 4 [60], .n 5 [61], .n 6 [62], .n 7 [5], .n 8 [64], .n 9 [65], .n 10 [66], .n 11 [5], .n 12 [68], .n 13 [69], .n 14 [70], .n 15 [6], .n 16 [71, 72], .n 17 [63, 67, 73], .w 18 [59, 74] [], .n 19 [58, 75], .n 20 [76], .w 21 [57, 77] [], .n 22 [78]]; (focus kernel_rfl); (focus (simp [go_sem, c1, fb, fl, f2, f3]; exact ⟨rfl, rfl⟩)); try dsimp only [thn, inBlk])
        | (apply AWP.dE hmix [.n 0 [5], .n 1 [95], .n 2 [96], .n 3 [97], .n 4 [98], .n 5 [5, 99], .n 6 [100, 99], .n 7 [101, 99], .n 8 [102, 99], .n 9 [103, 99], .n 10 [99, 104], .n 11 [105], .n 12 [5, 106], .n 13 [107, 106], .n 14 [108, 106], .n 15 [109, 106], .n 16 [5, 106], .n 17 [111, 106], .n 18 [112, 106], .n 19 [113, 106], .n 20 [114, 106], .n 21 [110, 115, 106], .n 22 [106, 116]]; (focus kernel_rfl); (focus (simp [go_sem, c1, fb, fl, f2, f3]; exact ⟨rfl, rfl⟩)); try dsimp only [thn, inBlk])
        | (apply AWP.dE hmix [.n 0 [5], .n 1 [128], .n 2 [129], .n 3 [130], .n 4 [5], .n 5 [132], .n 6 [133], .n 7 [134], .n 8 [131, 135]]; (focus kernel_rfl); (focus (simp [go_sem, c1, fb, fl, f2, f3]; exact ⟨rfl, rfl⟩)); try dsimp only [thn, inBlk])
        | (apply AWP.dE hmix [.n 0 [5], .n 1 [137], .n 2 [138], .n 3 [139], .n 4 [5], .n 5 [141], .n 6 [142], .n 7 [143], .n 8 [140, 144], .n 9 [145]]; (focus kernel_rfl); (focus (simp [go_sem, c1, fb, fl, f2, f3]; exact ⟨rfl, rfl⟩)); try dsimp only [thn, inBlk])
        | fail)
      exact ⟨a2, cap2, by simp [go_sem], k2⟩
    have hef : e = true := by rw [hef, hcl, hto]; rfl
    have hE1 : E = [toldF 2 j 0] := by rw [hE, hef]; rfl
    have v1 : IntKind.u8.wrap (j : Int) = ((UInt8.ofNat j).toNat : Nat) := by rw [wU8 (by omega) (by omega)]; simp [UInt8.toNat_ofNat]; omega
    have htf : toldF 2 j 0 = (4, [2, UInt8.ofNat j, 0, 0]) := rfl
    obtain ⟨x1, hx1⟩ : ∃ x, x = UInt8.ofNat j := ⟨_, rfl⟩
    rw [← hx1] at v1 htf
    have k6 : Own O _ (ob 5 (.slice (some ⟨h2.next, 0, none⟩) 4 4) [2, x1, 0, 0] :: _) := (k2.push (.row [.int .u8 2, .int .u8 x1.toNat, .int .u8 0, .int .u8 0] 5 1 true false)).row_any (n := 4) rfl
    obtain ⟨a7, cap7, h7, e7, k7⟩ := k6.b1.brecs_app (P := Try.prog) (t := 39) (xt := 39) (fs := fs2) (x := (4 : Int)) (bs := [2, x1, 0, 0]) (ba := some ⟨h2.next, 0, none⟩) (bc := 4) (i := h2.next + 1) Try.underlying39 tsz30 tby30 tz30 nI39 (by omega) rfl rfl rfl rfl (by omega)
    simp only [pre, List.cons_append, List.nil_append] at e7
    rw [show ([2, x1, 0, 0] : List UInt8).length = 4 from rfl] at e7
    have d7 := k7.tail.obj
    have e8 := sd3 q4 hj2 true
    rw [dg_set hDl, List.set_set] at e8
    have eD : D1.set j { xx with told := true } = D3 := by rw [hD3, hef, hxx2]; simp
    rw [eD] at e8
    have k8 := k7.b1.set (drow D3 ps)
    (repeat' first
      | refine AWP.seq ?_
      | refine AWP.block ?_
      | (refine AWP.skip ?_; try dsimp only [thn, inBlk])
      | (refine AWP.exit ?_; try simp only [thn, inBlk, if_true, reduceIte, Nat.reduceEqDiff])
      | (refine AWP.ret ?_; try dsimp only [thn, inBlk])
      | (refine AWP.condT ?_ ?_; (focus (simp [go_sem, c1, fb, fl, f0, f1, f2, f3, q3, v1, e7, d7, e8]; done)))
      | (refine AWP.condF ?_ ?_; (focus (simp [go_sem, c1, fb, fl, f0, f1, f2, f3, q3, v1, e7, d7, e8]; done)))
      | (apply AWP.rE; (focus (simp [go_sem, c1, fb, fl, f0, f1, f2, f3, q3, v1, e7, d7, e8]; exact ⟨rfl, rfl⟩)); try dsimp only [thn, inBlk])
      | (apply AWP.dE hmix [.n 0 [5], .n 1 [18], .n 2 [19], .n 3 [20], .n 4 [5], .n 5 [22], .n 6 [23], .n 7 [24], .n 8 [25], .n 9 [21, 26], .n 10 [27], .n 11 [5, 28], .n 12 [29, 28], .n 13 [30, 28], .n 14 [31, 28], .n 15 [32, 28], .n 16 [28, 33]]; (focus kernel_rfl); (focus (simp [go_sem, c1, fb, fl, f0, f1, f2, f3, q3, v1, e7, d7, e8]; exact ⟨rfl, rfl⟩)); try dsimp only [thn, inBlk])
      | (apply AWP.dE hmix [.n 0 [5], .n 1 [35], .n 2 [36], .n 3 [37], .n 4 [38], .n 5 [5], .n 6 [40], .n 7 [41], .n 8 [42], .n 9 [39, 43], .n 10 [44]]; (focus kernel_rfl); (focus (simp [go_sem, c1, fb, fl, f0, f1, f2, f3, q3, v1, e7, d7, e8]; exact ⟨rfl, rfl⟩)); try dsimp only [thn, inBlk])
      | (apply AWP.dE hmix [.n 0 [3], .n 1 [4], .n 2 [], .n 3 [5], .n 4 [60], .n 5 [61], .n 6 [62], .n 7 [5], .n 8 [64], .n 9 [65], .n 10 [66], .n 11 [5], .n 12 [68], .n 13 [69], .n 14 [70], .n 15 [6], .n 16 [71, 72], .n 17 [63, 67, 73], .w 18 [59, 74] [], .n 19 [58, 75], .n 20 [76], .w 21 [57, 77] [], .n 22 [78]]; (focus kernel_rfl); (focus (simp [go_sem, c1, fb, fl, f0, f1, f2, f3, q3, v1, e7, d7, e8]; exact ⟨rfl, rfl⟩)); try dsimp only [thn, inBlk])
      | (apply AWP.dE hmix [.n 0 [5], .n 1 [95], .n 2 [96], .n 3 [97], .n 4 [98], .n 5 [5, 99], .n 6 [100, 99], .n 7 [101, 99], .n 8 [102, 99], .n 9 [103, 99], .n 10 [99, 104], .n 11 [105], .n 12 [5, 106], .n 13 [107, 106], .n 14 [108, 106], .n 15 [109, 106], .n 16 [5, 106], .n 17 [111, 106], .n 18 [112, 106], .n 19 [113, 106], .n 20 [114, 106], .n 21 [110, 115, 106], .n 22 [106, 116]]; (focus kernel_rfl); (focus (simp [go_sem, c1, fb, fl, f0, f1, f2, f3, q3, v1, e7, d7, e8]; exact ⟨rfl, rfl⟩)); try dsimp only [thn, inBlk])
      | (apply AWP.dE hmix [.n 0 [5], .n 1 [128], .n 2 [129], .n 3 [130], .n 4 [5], .n 5 [132], .n 6 [133], .n 7 [134], .n 8 [131, 135]]; (focus kernel_rfl); (focus (simp [go_sem, c1, fb, fl, f0, f1, f2, f3, q3, v1, e7, d7, e8]; exact ⟨rfl, rfl⟩)); try dsimp only [thn, inBlk])
      | (apply AWP.dE hmix [.n 0 [5], .n 1 [137], .n 2 [138], .n 3 [139], .n 4 [5], .n 5 [141], .n 6 [142], .n 7 [143], .n 8 [140, 144], .n 9 [145]]; (focus kernel_rfl); (focus (simp [go_sem, c1, fb, fl, f0, f1, f2, f3, q3, v1, e7, d7, e8]; exact ⟨rfl, rfl⟩)); try dsimp only [thn, inBlk])
      | fail)
    refine ⟨a7, cap7, ?_, ?_⟩
    · rw [hfs3, hE1, htf]; simp [go_sem]
    · rw [hfs3, hE1, htf, List.length_append]
      exact k8.b1
  rintro s h5 ⟨a5, cap5, rfl, k5⟩
  have g5 := q43.fd hj2
  have fl5 := d_len q43
  have r5 := g5.d5
  have u5 := g5.d6
  have d5 := k5.tail.obj
  rw [hD3g] at r5 u5
  simp only at r5 u5
  by_cases hu : x.sd < x.r
  rotate_left
  · have hu' : ¬ (x.sd : Int) < (x.r : Int) := by omega
    rw [if_neg hu, List.append_nil] at eN1
    have hsr : x.r = x.sd := by omega
    have eD : (doutN D j1).2 = D3 := by rw [eN2, hD3, hsr]
    (repeat' first
      | refine AWP.seq ?_
      | refine AWP.block ?_
      | (refine AWP.skip ?_; try dsimp only [thn, inBlk])
      | (refine AWP.exit ?_; try simp only [thn, inBlk, if_true, reduceIte, Nat.reduceEqDiff])
      | (refine AWP.ret ?_; try dsimp only [thn, inBlk])
      | (refine AWP.condT ?_ ?_; (focus (simp [go_sem, d5, fb, fl5, u5, r5, hu', wj]; done)))
      | (refine AWP.condF ?_ ?_; (focus (simp [go_sem, d5, fb, fl5, u5, r5, hu', wj]; done)))
      | (apply AWP.rE; (focus (simp [go_sem, d5, fb, fl5, u5, r5, hu', wj]; exact ⟨rfl, rfl⟩)); try dsimp only [thn, inBlk])
      | (apply AWP.dE hmix [.n 0 [5], .n 1 [18], .n 2 [19], .n 3 [20], .n 4 [5], .n 5 [22], .n 6 [23], .n 7 [24], .n 8 [25], .n 9 [21, 26], .n 10 [27], .n 11 [5, 28], .n 12 [29, 28], .n 13 [30, 28], .n 14 [31, 28], .n 15 [32, 28], .n 16 [28, 33]]; (focus kernel_rfl); (focus (simp [go_sem, d5, fb, fl5, u5, r5, hu', wj]; exact ⟨rfl, rfl⟩)); try dsimp only [thn, inBlk])
      | (apply AWP.dE hmix [.n 0 [5], .n 1 [35], .n 2 [36], .n 3 [37], .n 4 [38], .n 5 [5], .n 6 [40], .n 7 [41], .n 8 [42], .n 9 [39, 43], .n 10 [44]]; (focus kernel_rfl); (focus (simp [go_sem, d5, fb, fl5, u5, r5, hu', wj]; exact ⟨rfl, rfl⟩)); try dsimp only [thn, inBlk])
      | (apply AWP.dE hmix [.n 0 [3], .n 1 [4], .n 2 [], .n 3 [5], .n 4 [60], .n 5 [61], .n 6 [62], .n 7 [5], .n 8 [64], .n 9 [65], .n 10 [66], .n 11 [5], .n 12 [68], .n 13 [69], .n 14 [70], .n 15 [6], .n 16 [71, 72], .n 17 [63, 67, 73], .w 18 [59, 74] [], .n 19 [58, 75], .n 20 [76], .w 21 [57, 77] [], .n 22 [78]]; (focus kernel_rfl); (focus (simp [go_sem, d5, fb, fl5, u5, r5, hu', wj]; exact ⟨rfl, rfl⟩)); try dsimp only [thn, inBlk])
      | (apply AWP.dE hmix [.n 0 [5], .n 1 [95], .n 2 [96], .n 3 [97], .n 4 [98], .n 5 [5, 99], .n 6 [100, 99], .n 7 [101, 99], .n 8 [102, 99], .n 9 [103, 99], .n 10 [99, 104], .n 11 [105], .n 12 [5, 106], .n 13 [107, 106], .n 14 [108, 106], .n 15 [109, 106], .n 16 [5, 106], .n 17 [111, 106], .n 18 [112, 106], .n 19 [113, 106], .n 20 [114, 106], .n 21 [110, 115, 106], .n 22 [106, 116]]; (focus kernel_rfl); (focus (simp [go_sem, d5, fb, fl5, u5, r5, hu', wj]; exact ⟨rfl, rfl⟩)); try dsimp only [thn, inBlk])
      | (apply AWP.dE hmix [.n 0 [5], .n 1 [128], .n 2 [129], .n 3 [130], .n 4 [5], .n 5 [132], .n 6 [133], .n 7 [134], .n 8 [131, 135]]; (focus kernel_rfl); (focus (simp [go_sem, d5, fb, fl5, u5, r5, hu', wj]; exact ⟨rfl, rfl⟩)); try dsimp only [thn, inBlk])
      | (apply AWP.dE hmix [.n 0 [5], .n 1 [137], .n 2 [138], .n 3 [139], .n 4 [5], .n 5 [141], .n 6 [142], .n 7 [143], .n 8 [140, 144], .n 9 [145]]; (focus kernel_rfl); (focus (simp [go_sem, d5, fb, fl5, u5, r5, hu', wj]; exact ⟨rfl, rfl⟩)); try dsimp only [thn, inBlk])
      | fail)
    exact ⟨4 - j1, by omega, j1, a5, cap5, by omega, rfl, by rw [eN1]; simp [go_sem], by rw [eN1, eD]; exact k5⟩
  · have hu' : (x.sd : Int) < (x.r : Int) := by omega
    rw [if_pos hu] at eN1
    obtain ⟨un, hun⟩ : ∃ un : Nat, un = x.r - x.sd := ⟨_, rfl⟩
    rw [← hun] at eN1
    have wun : IntKind.i64.wrap ((x.r : Int) - (x.sd : Int)) = (un : Int) := by rw [wI64 (by omega) (by omega)]; omega
    obtain ⟨qq, hqq⟩ : ∃ qq, qq = un / 256 := ⟨_, rfl⟩
    obtain ⟨rr, hrr⟩ : ∃ rr, rr = un % 256 := ⟨_, rfl⟩
    have wq : (un : Int).tdiv 256 = (qq : Int) := by rw [hqq]; rfl
    have wr : (un : Int).tmod 256 = (rr : Int) := by rw [hrr]; rfl
    have wq2 : IntKind.i64.wrap (qq : Int) = qq := wI64 (by omega) (by omega)
    have wr2 : IntKind.i64.wrap (rr : Int) = rr := wI64 (by omega) (by omega)
    have v1 : IntKind.u8.wrap (j : Int) = ((UInt8.ofNat j).toNat : Nat) := by rw [wU8 (by omega) (by omega)]; simp [UInt8.toNat_ofNat]; omega
    have v2 : IntKind.u8.wrap (qq : Int) = ((UInt8.ofNat qq).toNat : Nat) := by rw [wU8 (by omega) (by omega)]; simp [UInt8.toNat_ofNat]; omega
    have v3 : IntKind.u8.wrap (rr : Int) = ((UInt8.ofNat rr).toNat : Nat) := by rw [wU8 (by omega) (by omega)]; simp [UInt8.toNat_ofNat]; omega
    have htf : toldF 1 j un = (4, [1, UInt8.ofNat j, UInt8.ofNat qq, UInt8.ofNat rr]) := by rw [toldF, hqq, hrr]; rfl
    obtain ⟨x1, hx1⟩ : ∃ x, x = UInt8.ofNat j := ⟨_, rfl⟩
    obtain ⟨x2, hx2⟩ : ∃ x, x = UInt8.ofNat qq := ⟨_, rfl⟩
    obtain ⟨x3, hx3⟩ : ∃ x, x = UInt8.ofNat rr := ⟨_, rfl⟩
    rw [← hx1] at v1
    rw [← hx2] at v2
    rw [← hx3] at v3
    rw [← hx1, ← hx2, ← hx3] at htf
    have k6 : Own O _ (ob 5 (.slice (some ⟨h5.next, 0, none⟩) 4 4) [1, x1, x2, x3] :: _) := (k5.push (.row [.int .u8 1, .int .u8 x1.toNat, .int .u8 x2.toNat, .int .u8 x3.toNat] 5 1 true false)).row_any (n := 4) rfl
    obtain ⟨a7, cap7, h7, e7, k7⟩ := k6.b1.brecs_app (P := Try.prog) (t := 39) (xt := 39) (fs := fs3) (x := (4 : Int)) (bs := [1, x1, x2, x3]) (ba := some ⟨h5.next, 0, none⟩) (bc := 4) (i := h5.next + 1) Try.underlying39 tsz30 tby30 tz30 nI39 (by omega) rfl rfl rfl rfl (by omega)
    simp only [pre, List.cons_append, List.nil_append] at e7
    rw [show ([1, x1, x2, x3] : List UInt8).length = 4 from rfl] at e7
    have d7 := k7.tail.obj
    have e8 := sd6 q43 hj2 x.r
    rw [hD3g] at e8
    have eD : D3.set j { x with s := sv, cr := cr, told := x.told || e, sd := x.r } = (doutN D j1).2 := by rw [eN2, hD3, List.set_set]
    rw [eD] at e8
    have k8 := k7.b1.set (drow (doutN D j1).2 ps)
    (repeat' first
      | refine AWP.seq ?_
      | refine AWP.block ?_
      | (refine AWP.skip ?_; try dsimp only [thn, inBlk])
      | (refine AWP.exit ?_; try simp only [thn, inBlk, if_true, reduceIte, Nat.reduceEqDiff])
      | (refine AWP.ret ?_; try dsimp only [thn, inBlk])
      | (refine AWP.condT ?_ ?_; (focus (simp [go_sem, d5, fb, fl5, u5, r5, hu', wun, wq, wr, wq2, wr2, v1, v2, v3, e7, d7, e8, wj]; done)))
      | (refine AWP.condF ?_ ?_; (focus (simp [go_sem, d5, fb, fl5, u5, r5, hu', wun, wq, wr, wq2, wr2, v1, v2, v3, e7, d7, e8, wj]; done)))
      | (apply AWP.rE; (focus (simp [go_sem, d5, fb, fl5, u5, r5, hu', wun, wq, wr, wq2, wr2, v1, v2, v3, e7, d7, e8, wj]; exact ⟨rfl, rfl⟩)); try dsimp only [thn, inBlk])
      | (apply AWP.dE hmix [.n 0 [5], .n 1 [18], .n 2 [19], .n 3 [20], .n 4 [5], .n 5 [22], .n 6 [23], .n 7 [24], .n 8 [25], .n 9 [21, 26], .n 10 [27], .n 11 [5, 28], .n 12 [29, 28], .n 13 [30, 28], .n 14 [31, 28], .n 15 [32, 28], .n 16 [28, 33]]; (focus kernel_rfl); (focus (simp [go_sem, d5, fb, fl5, u5, r5, hu', wun, wq, wr, wq2, wr2, v1, v2, v3, e7, d7, e8, wj]; exact ⟨rfl, rfl⟩)); try dsimp only [thn, inBlk])
      | (apply AWP.dE hmix [.n 0 [5], .n 1 [35], .n 2 [36], .n 3 [37], .n 4 [38], .n 5 [5], .n 6 [40], .n 7 [41], .n 8 [42], .n 9 [39, 43], .n 10 [44]]; (focus kernel_rfl); (focus (simp [go_sem, d5, fb, fl5, u5, r5, hu', wun, wq, wr, wq2, wr2, v1, v2, v3, e7, d7, e8, wj]; exact ⟨rfl, rfl⟩)); try dsimp only [thn, inBlk])
      | (apply AWP.dE hmix [.n 0 [3], .n 1 [4], .n 2 [], .n 3 [5], .n 4 [60], .n 5 [61], .n 6 [62], .n 7 [5], .n 8 [64], .n 9 [65], .n 10 [66], .n 11 [5], .n 12 [68], .n 13 [69], .n 14 [70], .n 15 [6], .n 16 [71, 72], .n 17 [63, 67, 73], .w 18 [59, 74] [], .n 19 [58, 75], .n 20 [76], .w 21 [57, 77] [], .n 22 [78]]; (focus kernel_rfl); (focus (simp [go_sem, d5, fb, fl5, u5, r5, hu', wun, wq, wr, wq2, wr2, v1, v2, v3, e7, d7, e8, wj]; exact ⟨rfl, rfl⟩)); try dsimp only [thn, inBlk])
      | (apply AWP.dE hmix [.n 0 [5], .n 1 [95], .n 2 [96], .n 3 [97], .n 4 [98], .n 5 [5, 99], .n 6 [100, 99], .n 7 [101, 99], .n 8 [102, 99], .n 9 [103, 99], .n 10 [99, 104], .n 11 [105], .n 12 [5, 106], .n 13 [107, 106], .n 14 [108, 106], .n 15 [109, 106], .n 16 [5, 106], .n 17 [111, 106], .n 18 [112, 106], .n 19 [113, 106], .n 20 [114, 106], .n 21 [110, 115, 106], .n 22 [106, 116]]; (focus kernel_rfl); (focus (simp [go_sem, d5, fb, fl5, u5, r5, hu', wun, wq, wr, wq2, wr2, v1, v2, v3, e7, d7, e8, wj]; exact ⟨rfl, rfl⟩)); try dsimp only [thn, inBlk])
      | (apply AWP.dE hmix [.n 0 [5], .n 1 [128], .n 2 [129], .n 3 [130], .n 4 [5], .n 5 [132], .n 6 [133], .n 7 [134], .n 8 [131, 135]]; (focus kernel_rfl); (focus (simp [go_sem, d5, fb, fl5, u5, r5, hu', wun, wq, wr, wq2, wr2, v1, v2, v3, e7, d7, e8, wj]; exact ⟨rfl, rfl⟩)); try dsimp only [thn, inBlk])
      | (apply AWP.dE hmix [.n 0 [5], .n 1 [137], .n 2 [138], .n 3 [139], .n 4 [5], .n 5 [141], .n 6 [142], .n 7 [143], .n 8 [140, 144], .n 9 [145]]; (focus kernel_rfl); (focus (simp [go_sem, d5, fb, fl5, u5, r5, hu', wun, wq, wr, wq2, wr2, v1, v2, v3, e7, d7, e8, wj]; exact ⟨rfl, rfl⟩)); try dsimp only [thn, inBlk])
      | fail)
    refine ⟨4 - j1, by omega, j1, a7, cap7, by omega, rfl, ?_, ?_⟩
    · rw [eN1, htf]; simp [go_sem]
    · rw [eN1, htf, List.length_append]
      exact k8.b1
end L18
