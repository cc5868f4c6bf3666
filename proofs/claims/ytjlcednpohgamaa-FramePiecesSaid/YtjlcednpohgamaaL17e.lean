import Derived.Test.YtjlcednpohgamaaL17d
open Go Ab Go.Proofs
namespace L17
set_option autoImplicit false
set_option linter.unusedSimpArgs false
set_option linter.unusedVariables false

theorem take_succ_eq {α : Type} {l g : List α} {j : Nat} (h : l.take j = g.take j) (h1 : j < l.length) (h2 : j < g.length) (h3 : l[j] = g[j]) : l.take (j + 1) = g.take (j + 1) := by
  rw [List.take_succ_eq_append_getElem h1, List.take_succ_eq_append_getElem h2, h, h3]

theorem fr_at {h : AHeap} {v : Value} {fs : List Fr} (k : BR pre 2 h v fs) {j : Nat} (hj : j < fs.length) {kd : IntKind} :
    ∃ i off c e' sz' ti ro a cap, indexAddrP Try.prog 27 v (.int kd j) = some (.pointer (some ⟨i, off, none⟩)) ∧ h.obj i = some (.row c e' sz' ti ro) ∧ c[off]? = some (.int .i64 fs[j].1) ∧ c[off + 1]? = some (.slice a fs[j].2.length cap) ∧ off + 2 ≤ c.length ∧ (c.drop off).take 2 = [.int .i64 fs[j].1, .slice a fs[j].2.length cap] ∧ Bytes h (.slice a fs[j].2.length cap) fs[j].2 := by
  obtain ⟨i, off, c, e', sz', ti, ro, a, cap, p, q, g1, g2, g3, g4⟩ := k.at (P := Try.prog) (t := 27) (fun x => rfl) Try.underlying27 tsz36 hj (kd := kd)
  exact ⟨i, off, c, e', sz', ti, ro, a, cap, p, q, g3 0 _ rfl, g3 1 _ rfl, g1, g2, g4⟩

set_option maxHeartbeats 2000000 in
theorem same_calls {h : AHeap} {v1 v2 : Value} {fs gs : List Fr} (b1 : BR pre 2 h v1 fs) (b2 : BR pre 2 h v2 gs) (hm : fs.length ≤ 1000000000) :
    ACalls Try.prog 12 #[v1, v2] h fun v h' => v = .bool (decide (fs = gs)) ∧ h' = h := by
  obtain ⟨xa, xc, rfl⟩ := b1.val
  obtain ⟨ya, yc, rfl⟩ := b2.val
  refine ACalls.of_awp (args := [.slice xa fs.length xc, .slice ya gs.length yc]) (n := 43) Try.func12 rfl rfl (by show 2 ≤ 43; omega) ?_
  by_cases hl : fs.length = gs.length
  rotate_left
  · have hl1 : ((fs.length : Int) != gs.length) = true := by simpa using fun e => hl (by omega)
    have hn : ¬ fs = gs := fun e => hl (by rw [e])
    (repeat' first
      | refine AWP.seq ?_
      | refine AWP.block ?_
      | (refine AWP.skip ?_; try dsimp only [thn, inBlk])
      | (refine AWP.exit ?_; try simp only [thn, inBlk, if_true])
      | (refine AWP.ret ?_; try dsimp only [thn, inBlk])
      | (refine AWP.condT ?_ ?_; (focus (simp [go_sem, hl1]; done)))
      | (refine AWP.condF ?_ ?_; (focus (simp [go_sem, hl1]; done)))
      | (apply AWP.rE; (focus (simp [go_sem, hl1]; exact ⟨rfl, rfl⟩)); try dsimp only [thn, inBlk])
      | (apply AWP.dE hmix [.n 0 [0], .n 1 [5], .n 2 [17, 18], .n 3 [19], .n 4 [20], .n 5 [1], .n 6 [5], .n 7 [22, 23], .n 8 [24], .n 9 [25], .n 10 [21, 26], .n 11 [27], .n 12 [0, 28], .n 13 [5, 28], .n 14 [29, 30, 28], .n 15 [31, 28], .n 16 [32, 28], .n 17 [33, 28], .n 18 [1, 28], .n 19 [5, 28], .n 20 [35, 36, 28], .n 21 [37, 28], .n 22 [38, 28], .n 23 [39, 28], .n 24 [34, 40, 28], .n 25 [28, 41]]; (focus kernel_rfl); (focus (simp [go_sem, hl1]; exact ⟨rfl, rfl⟩)); try dsimp only [thn, inBlk])
      | fail)
    simp [bodyQ, thn, inBlk, resA, resV, go_sem, hn]
  have hl1 : ((fs.length : Int) != gs.length) = false := by simp; omega
  (repeat' first
    | refine AWP.seq ?_
    | refine AWP.block ?_
    | (refine AWP.skip ?_; try dsimp only [thn, inBlk])
    | (refine AWP.exit ?_; try simp only [thn, inBlk, if_true])
    | (refine AWP.ret ?_; try dsimp only [thn, inBlk])
    | (refine AWP.condT ?_ ?_; (focus (simp [go_sem, hl1]; done)))
    | (refine AWP.condF ?_ ?_; (focus (simp [go_sem, hl1]; done)))
    | (apply AWP.rE; (focus (simp [go_sem, hl1]; exact ⟨rfl, rfl⟩)); try dsimp only [thn, inBlk])
    | (apply AWP.dE hmix [.n 0 [0], .n 1 [5], .n 2 [17, 18], .n 3 [19], .n 4 [20], .n 5 [1], .n 6 [5], .n 7 [22, 23], .n 8 [24], .n 9 [25], .n 10 [21, 26], .n 11 [27], .n 12 [0, 28], .n 13 [5, 28], .n 14 [29, 30, 28], .n 15 [31, 28], .n 16 [32, 28], .n 17 [33, 28], .n 18 [1, 28], .n 19 [5, 28], .n 20 [35, 36, 28], .n 21 [37, 28], .n 22 [38, 28], .n 23 [39, 28], .n 24 [34, 40, 28], .n 25 [28, 41]]; (focus kernel_rfl); (focus (simp [go_sem, hl1]; exact ⟨rfl, rfl⟩)); try dsimp only [thn, inBlk])
    | fail)
  refine AWP.loopR [0, 1, 5] (fun m s h' => ∃ j : Nat, j ≤ fs.length ∧ m = fs.length - j ∧ s = ⟨43, [(0, .slice xa fs.length xc), (1, .slice ya gs.length yc), (5, .int .i64 j)]⟩ ∧ fs.take j = gs.take j ∧ h' = h) ?_ ?_
  · exact ⟨_, 0, by omega, rfl, rfl, by simp, rfl⟩
  rintro m s h' ⟨j, hj, rfl, rfl, ht, rfl⟩
  by_cases hj0 : j < fs.length
  rotate_left
  · have hj1 : ¬ (j : Int) < fs.length := by omega
    obtain rfl : j = fs.length := by omega
    have he : fs = gs := by rw [List.take_length, hl, List.take_length] at ht; exact ht
    (repeat' first
      | refine AWP.seq ?_
      | refine AWP.block ?_
      | (refine AWP.skip ?_; try dsimp only [thn, inBlk])
      | (refine AWP.exit ?_; try simp only [thn, inBlk, if_true])
      | (refine AWP.ret ?_; try dsimp only [thn, inBlk])
      | (refine AWP.condT ?_ ?_; (focus (simp [go_sem, hj1]; done)))
      | (refine AWP.condF ?_ ?_; (focus (simp [go_sem, hj1]; done)))
      | (apply AWP.rE; (focus (simp [go_sem, hj1]; exact ⟨rfl, rfl⟩)); try dsimp only [thn, inBlk])
      | (apply AWP.dE hmix [.n 0 [0], .n 1 [5], .n 2 [17, 18], .n 3 [19], .n 4 [20], .n 5 [1], .n 6 [5], .n 7 [22, 23], .n 8 [24], .n 9 [25], .n 10 [21, 26], .n 11 [27], .n 12 [0, 28], .n 13 [5, 28], .n 14 [29, 30, 28], .n 15 [31, 28], .n 16 [32, 28], .n 17 [33, 28], .n 18 [1, 28], .n 19 [5, 28], .n 20 [35, 36, 28], .n 21 [37, 28], .n 22 [38, 28], .n 23 [39, 28], .n 24 [34, 40, 28], .n 25 [28, 41]]; (focus kernel_rfl); (focus (simp [go_sem, hj1]; exact ⟨rfl, rfl⟩)); try dsimp only [thn, inBlk])
      | fail)
    simp [bodyQ, thn, inBlk, resA, resV, go_sem, he]
  have hj1 : (j : Int) < fs.length := by omega
  have w1 : IntKind.i64.wrap ((j : Int) + 1) = ((j + 1 : Nat) : Int) := by rw [wI64 (by omega) (by omega)]; omega
  obtain ⟨i0, o0, c0, e0, z0, ti0, ro0, a0, n0, p0, q0, g0, g0', l0, f0, b0⟩ := fr_at b1 hj0 (kd := .i64)
  obtain ⟨i3, o3, c3, e3, z3, ti3, ro3, a3, n3, p3, q3, g3, g3', l3, f3, b3⟩ := fr_at b2 (j := j) (by omega) (kd := .i64)
  have s0 := b0.str (P := Try.prog) (t := 26) (e := 5) (u := 9) Try.underlying26 Try.underlying5 Try.underlying9
  have s3 := b3.str (P := Try.prog) (t := 26) (e := 5) (u := 9) Try.underlying26 Try.underlying5 Try.underlying9
  by_cases hc : fs[j].1 = gs[j].1
  rotate_left
  · have hc1 : (fs[j].1 != (gs[j]'(by omega)).1) = true := by simpa using hc
    have hn : ¬ fs = gs := fun e => hc (by subst e; rfl)
    (repeat' first
      | refine AWP.seq ?_
      | refine AWP.block ?_
      | (refine AWP.skip ?_; try dsimp only [thn, inBlk])
      | (refine AWP.exit ?_; try simp only [thn, inBlk, if_true])
      | (refine AWP.ret ?_; try dsimp only [thn, inBlk])
      | (refine AWP.condT ?_ ?_; (focus (simp [go_sem, hj1, p0, q0, g0, g0', p3, q3, g3, g3', hc1]; done)))
      | (refine AWP.condF ?_ ?_; (focus (simp [go_sem, hj1, p0, q0, g0, g0', p3, q3, g3, g3', hc1]; done)))
      | (apply AWP.rE; (focus (simp [go_sem, hj1, p0, q0, g0, g0', p3, q3, g3, g3', hc1]; exact ⟨rfl, rfl⟩)); try dsimp only [thn, inBlk])
      | (apply AWP.dE hmix [.n 0 [0], .n 1 [5], .n 2 [17, 18], .n 3 [19], .n 4 [20], .n 5 [1], .n 6 [5], .n 7 [22, 23], .n 8 [24], .n 9 [25], .n 10 [21, 26], .n 11 [27], .n 12 [0, 28], .n 13 [5, 28], .n 14 [29, 30, 28], .n 15 [31, 28], .n 16 [32, 28], .n 17 [33, 28], .n 18 [1, 28], .n 19 [5, 28], .n 20 [35, 36, 28], .n 21 [37, 28], .n 22 [38, 28], .n 23 [39, 28], .n 24 [34, 40, 28], .n 25 [28, 41]]; (focus kernel_rfl); (focus (simp [go_sem, hj1, p0, q0, g0, g0', p3, q3, g3, g3', hc1]; exact ⟨rfl, rfl⟩)); try dsimp only [thn, inBlk])
      | fail)
    simp [bodyQ, thn, inBlk, resA, resV, go_sem, hn]
  have hc1 : (fs[j].1 != (gs[j]'(by omega)).1) = false := by simpa using hc
  by_cases hd : fs[j].2 = gs[j].2
  rotate_left
  · have hd1 : (fs[j].2 == (gs[j]'(by omega)).2) = false := by simpa using hd
    have hn : ¬ fs = gs := fun e => hd (by subst e; rfl)
    (repeat' first
      | refine AWP.seq ?_
      | refine AWP.block ?_
      | (refine AWP.skip ?_; try dsimp only [thn, inBlk])
      | (refine AWP.exit ?_; try simp only [thn, inBlk, if_true])
      | (refine AWP.ret ?_; try dsimp only [thn, inBlk])
      | (refine AWP.condT ?_ ?_; (focus (simp [go_sem, hj1, p0, q0, g0, g0', p3, q3, g3, g3', hc1, s0, s3, hd1]; done)))
      | (refine AWP.condF ?_ ?_; (focus (simp [go_sem, hj1, p0, q0, g0, g0', p3, q3, g3, g3', hc1, s0, s3, hd1]; done)))
      | (apply AWP.rE; (focus (simp [go_sem, hj1, p0, q0, g0, g0', p3, q3, g3, g3', hc1, s0, s3, hd1]; exact ⟨rfl, rfl⟩)); try dsimp only [thn, inBlk])
      | (apply AWP.dE hmix [.n 0 [0], .n 1 [5], .n 2 [17, 18], .n 3 [19], .n 4 [20], .n 5 [1], .n 6 [5], .n 7 [22, 23], .n 8 [24], .n 9 [25], .n 10 [21, 26], .n 11 [27], .n 12 [0, 28], .n 13 [5, 28], .n 14 [29, 30, 28], .n 15 [31, 28], .n 16 [32, 28], .n 17 [33, 28], .n 18 [1, 28], .n 19 [5, 28], .n 20 [35, 36, 28], .n 21 [37, 28], .n 22 [38, 28], .n 23 [39, 28], .n 24 [34, 40, 28], .n 25 [28, 41]]; (focus kernel_rfl); (focus (simp [go_sem, hj1, p0, q0, g0, g0', p3, q3, g3, g3', hc1, s0, s3, hd1]; exact ⟨rfl, rfl⟩)); try dsimp only [thn, inBlk])
      | fail)
    simp [bodyQ, thn, inBlk, resA, resV, go_sem, hn]
  have hd1 : (fs[j].2 == (gs[j]'(by omega)).2) = true := by simpa using hd
  (repeat' first
    | refine AWP.seq ?_
    | refine AWP.block ?_
    | (refine AWP.skip ?_; try dsimp only [thn, inBlk])
    | (refine AWP.exit ?_; try simp only [thn, inBlk, if_true])
    | (refine AWP.ret ?_; try dsimp only [thn, inBlk])
    | (refine AWP.condT ?_ ?_; (focus (simp [go_sem, hj1, p0, q0, g0, g0', p3, q3, g3, g3', hc1, s0, s3, hd1, w1]; done)))
    | (refine AWP.condF ?_ ?_; (focus (simp [go_sem, hj1, p0, q0, g0, g0', p3, q3, g3, g3', hc1, s0, s3, hd1, w1]; done)))
    | (apply AWP.rE; (focus (simp [go_sem, hj1, p0, q0, g0, g0', p3, q3, g3, g3', hc1, s0, s3, hd1, w1]; exact ⟨rfl, rfl⟩)); try dsimp only [thn, inBlk])
    | (apply AWP.dE hmix [.n 0 [0], .n 1 [5], .n 2 [17, 18], .n 3 [19], .n 4 [20], .n 5 [1], .n 6 [5], .n 7 [22, 23], .n 8 [24], .n 9 [25], .n 10 [21, 26], .n 11 [27], .n 12 [0, 28], .n 13 [5, 28], .n 14 [29, 30, 28], .n 15 [31, 28], .n 16 [32, 28], .n 17 [33, 28], .n 18 [1, 28], .n 19 [5, 28], .n 20 [35, 36, 28], .n 21 [37, 28], .n 22 [38, 28], .n 23 [39, 28], .n 24 [34, 40, 28], .n 25 [28, 41]]; (focus kernel_rfl); (focus (simp [go_sem, hj1, p0, q0, g0, g0', p3, q3, g3, g3', hc1, s0, s3, hd1, w1]; exact ⟨rfl, rfl⟩)); try dsimp only [thn, inBlk])
    | fail)
  exact ⟨fs.length - (j + 1), by omega, j + 1, by omega, rfl, by simp [go_sem], take_succ_eq ht hj0 (by omega) (Prod.ext hc hd), rfl⟩
end L17
