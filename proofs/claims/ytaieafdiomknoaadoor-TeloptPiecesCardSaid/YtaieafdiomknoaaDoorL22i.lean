import Derived.Test.YtaieafdiomknoaaDoorL22h
open Go Ab Go.Proofs
namespace L22
set_option autoImplicit false
set_option linter.unusedSimpArgs false
set_option linter.unusedVariables false

theorem take_succ_eq {α : Type} {l g : List α} {j : Nat} (h : l.take j = g.take j) (h1 : j < l.length) (h2 : j < g.length) (h3 : l[j] = g[j]) : l.take (j + 1) = g.take (j + 1) := by
  rw [List.take_succ_eq_append_getElem h1, List.take_succ_eq_append_getElem h2, h, h3]

theorem tl_at {h : AHeap} {v : Value} {fs : List Tl} (k : BR pre 4 h v fs) {j : Nat} (hj : j < fs.length) {kd : IntKind} :
    ∃ i off c e' sz' ti ro a cap, indexAddrP Tryd.prog 33 v (.int kd j) = some (.pointer (some ⟨i, off, none⟩)) ∧ h.obj i = some (.row c e' sz' ti ro) ∧ c[off]? = some (.int .i64 fs[j].1.1) ∧ c[off + 1]? = some (.int .i64 fs[j].1.2.1) ∧ c[off + 2]? = some (.int .i64 fs[j].1.2.2) ∧ c[off + 3]? = some (.slice a fs[j].2.length cap) ∧ off + 4 ≤ c.length ∧
      (c.drop off).take 4 = [.int .i64 fs[j].1.1, .int .i64 fs[j].1.2.1, .int .i64 fs[j].1.2.2, .slice a fs[j].2.length cap] ∧ Bytes h (.slice a fs[j].2.length cap) fs[j].2 := by
  obtain ⟨i, off, c, e', sz', ti, ro, a, cap, p, q, g1, g2, g3, g4⟩ := k.at (P := Tryd.prog) (t := 33) (fun x => rfl) Tryd.underlying33 tsz24 hj (kd := kd)
  exact ⟨i, off, c, e', sz', ti, ro, a, cap, p, q, g3 0 _ rfl, g3 1 _ rfl, g3 2 _ rfl, g3 3 _ rfl, g1, g2, g4⟩

set_option maxHeartbeats 4000000 in
theorem same_calls {h : AHeap} {v1 v2 : Value} {fs gs : List Tl} (b1 : BR pre 4 h v1 fs) (b2 : BR pre 4 h v2 gs) (hm : fs.length ≤ 1000000000) :
    ACalls Tryd.prog 13 #[v1, v2] h fun v h' => v = .bool (decide (fs = gs)) ∧ h' = h := by
  obtain ⟨xa, xc, rfl⟩ := b1.val
  obtain ⟨ya, yc, rfl⟩ := b2.val
  refine ACalls.of_awp (args := [.slice xa fs.length xc, .slice ya gs.length yc]) (n := 69) Tryd.func13 rfl rfl (by show 2 ≤ 69; omega) ?_
  by_cases hl : fs.length = gs.length
  rotate_left
  · have hl1 : ((fs.length : Int) != gs.length) = true := by simpa using fun e => hl (by omega)
    have hn : ¬ fs = gs := fun e => hl (by rw [e])
    (repeat' first
      | refine AWP.seq ?_
      | refine AWP.block ?_
      | (refine AWP.skip ?_; try dsimp only [thn, inBlk])
      | (refine AWP.exit ?_; try simp only [thn, inBlk, if_true, reduceIte, Nat.reduceEqDiff])
      | (refine AWP.ret ?_; try dsimp only [thn, inBlk])
      | (refine AWP.condT ?_ ?_; (focus (simp [go_sem, hl1]; done)))
      | (refine AWP.condF ?_ ?_; (focus (simp [go_sem, hl1]; done)))
      | (apply AWP.rE; (focus (simp [go_sem, hl1]; exact ⟨rfl, rfl⟩)); try dsimp only [thn, inBlk])
      | (apply AWP.dE hmix [.n 0 [0], .n 1 [5], .n 2 [17, 18], .n 3 [19], .n 4 [20], .n 5 [1], .n 6 [5], .n 7 [22, 23], .n 8 [24], .n 9 [25], .n 10 [21, 26], .n 11 [27], .n 12 [0, 28], .n 13 [5, 28], .n 14 [29, 30, 28], .n 15 [31, 28], .n 16 [32, 28], .n 17 [1, 28], .n 18 [5, 28], .n 19 [34, 35, 28], .n 20 [36, 28], .n 21 [37, 28], .n 22 [33, 38, 28], .n 23 [28, 39], .n 24 [40], .n 25 [0, 41], .n 26 [5, 41], .n 27 [42, 43, 41], .n 28 [44, 41], .n 29 [45, 41], .n 30 [1, 41], .n 31 [5, 41], .n 32 [47, 48, 41], .n 33 [49, 41], .n 34 [50, 41], .n 35 [46, 51, 41], .n 36 [41, 52], .n 37 [53], .n 38 [0, 54], .n 39 [5, 54], .n 40 [55, 56, 54], .n 41 [57, 54], .n 42 [58, 54], .n 43 [59, 54], .n 44 [1, 54], .n 45 [5, 54], .n 46 [61, 62, 54], .n 47 [63, 54], .n 48 [64, 54], .n 49 [65, 54], .n 50 [60, 66, 54], .n 51 [54, 67]]; (focus kernel_rfl); (focus (simp [go_sem, hl1]; exact ⟨rfl, rfl⟩)); try dsimp only [thn, inBlk])
      | fail)
    simp [bodyQ, thn, inBlk, resA, resV, go_sem, hn]
  have hl1 : ((fs.length : Int) != gs.length) = false := by simp; omega
  (repeat' first
    | refine AWP.seq ?_
    | refine AWP.block ?_
    | (refine AWP.skip ?_; try dsimp only [thn, inBlk])
    | (refine AWP.exit ?_; try simp only [thn, inBlk, if_true, reduceIte, Nat.reduceEqDiff])
    | (refine AWP.ret ?_; try dsimp only [thn, inBlk])
    | (refine AWP.condT ?_ ?_; (focus (simp [go_sem, hl1]; done)))
    | (refine AWP.condF ?_ ?_; (focus (simp [go_sem, hl1]; done)))
    | (apply AWP.rE; (focus (simp [go_sem, hl1]; exact ⟨rfl, rfl⟩)); try dsimp only [thn, inBlk])
    | (apply AWP.dE hmix [.n 0 [0], .n 1 [5], .n 2 [17, 18], .n 3 [19], .n 4 [20], .n 5 [1], .n 6 [5], .n 7 [22, 23], .n 8 [24], .n 9 [25], .n 10 [21, 26], .n 11 [27], .n 12 [0, 28], .n 13 [5, 28], .n 14 [29, 30, 28], .n 15 [31, 28], .n 16 [32, 28], .n 17 [1, 28], .n 18 [5, 28], .n 19 [34, 35, 28], .n 20 [36, 28], .n 21 [37, 28], .n 22 [33, 38, 28], .n 23 [28, 39], .n 24 [40], .n 25 [0, 41], .n 26 [5, 41], .n 27 [42, 43, 41], .n 28 [44, 41], .n 29 [45, 41], .n 30 [1, 41], .n 31 [5, 41], .n 32 [47, 48, 41], .n 33 [49, 41], .n 34 [50, 41], .n 35 [46, 51, 41], .n 36 [41, 52], .n 37 [53], .n 38 [0, 54], .n 39 [5, 54], .n 40 [55, 56, 54], .n 41 [57, 54], .n 42 [58, 54], .n 43 [59, 54], .n 44 [1, 54], .n 45 [5, 54], .n 46 [61, 62, 54], .n 47 [63, 54], .n 48 [64, 54], .n 49 [65, 54], .n 50 [60, 66, 54], .n 51 [54, 67]]; (focus kernel_rfl); (focus (simp [go_sem, hl1]; exact ⟨rfl, rfl⟩)); try dsimp only [thn, inBlk])
    | fail)
  refine AWP.loopR [0, 1, 5] (fun m s h' => ∃ j : Nat, j ≤ fs.length ∧ m = fs.length - j ∧ s = ⟨69, [(0, .slice xa fs.length xc), (1, .slice ya gs.length yc), (5, .int .i64 j)]⟩ ∧ fs.take j = gs.take j ∧ h' = h) ?_ ?_
  · exact ⟨_, 0, by omega, rfl, rfl, by simp, rfl⟩
  rintro m s h' ⟨j, hj, rfl, rfl, ht, rfl⟩
  by_cases hj0 : j < fs.length
  rotate_left
  · have hj1 : ¬ (j : Int) < fs.length := by omega
    obtain rfl : j = fs.length := by omega
    have he : fs = gs := by rw [List.take_length, hl, List.take_length] at ht; exact ht
    (repeat' first
      | refine AWP.seq ?_
      | refine AWP.block ?_
      | (refine AWP.skip ?_; try dsimp only [thn, inBlk])
      | (refine AWP.exit ?_; try simp only [thn, inBlk, if_true, reduceIte, Nat.reduceEqDiff])
      | (refine AWP.ret ?_; try dsimp only [thn, inBlk])
      | (refine AWP.condT ?_ ?_; (focus (simp [go_sem, hj1]; done)))
      | (refine AWP.condF ?_ ?_; (focus (simp [go_sem, hj1]; done)))
      | (apply AWP.rE; (focus (simp [go_sem, hj1]; exact ⟨rfl, rfl⟩)); try dsimp only [thn, inBlk])
      | (apply AWP.dE hmix [.n 0 [0], .n 1 [5], .n 2 [17, 18], .n 3 [19], .n 4 [20], .n 5 [1], .n 6 [5], .n 7 [22, 23], .n 8 [24], .n 9 [25], .n 10 [21, 26], .n 11 [27], .n 12 [0, 28], .n 13 [5, 28], .n 14 [29, 30, 28], .n 15 [31, 28], .n 16 [32, 28], .n 17 [1, 28], .n 18 [5, 28], .n 19 [34, 35, 28], .n 20 [36, 28], .n 21 [37, 28], .n 22 [33, 38, 28], .n 23 [28, 39], .n 24 [40], .n 25 [0, 41], .n 26 [5, 41], .n 27 [42, 43, 41], .n 28 [44, 41], .n 29 [45, 41], .n 30 [1, 41], .n 31 [5, 41], .n 32 [47, 48, 41], .n 33 [49, 41], .n 34 [50, 41], .n 35 [46, 51, 41], .n 36 [41, 52], .n 37 [53], .n 38 [0, 54], .n 39 [5, 54], .n 40 [55, 56, 54], .n 41 [57, 54], .n 42 [58, 54], .n 43 [59, 54], .n 44 [1, 54], .n 45 [5, 54], .n 46 [61, 62, 54], .n 47 [63, 54], .n 48 [64, 54], .n 49 [65, 54], .n 50 [60, 66, 54], .n 51 [54, 67]]; (focus kernel_rfl); (focus (simp [go_sem, hj1]; exact ⟨rfl, rfl⟩)); try dsimp only [thn, inBlk])
      | fail)
    simp [bodyQ, thn, inBlk, resA, resV, go_sem, he]
  have hj1 : (j : Int) < fs.length := by omega
  have w1 : IntKind.i64.wrap ((j : Int) + 1) = ((j + 1 : Nat) : Int) := by rw [wI64 (by omega) (by omega)]; omega
  obtain ⟨i0, o0, c0, e0, z0, ti0, ro0, a0, n0, p0, q0, g0, g0', g0'', g0''', l0, f0, b0⟩ := tl_at b1 hj0 (kd := .i64)
  obtain ⟨i3, o3, c3, e3, z3, ti3, ro3, a3, n3, p3, q3, g3, g3', g3'', g3''', l3, f3, b3⟩ := tl_at b2 (j := j) (by omega) (kd := .i64)
  have s0 := b0.str (P := Tryd.prog) (t := 22) (e := 5) (u := 9) Tryd.underlying22 Tryd.underlying5 Tryd.underlying9
  have s3 := b3.str (P := Tryd.prog) (t := 22) (e := 5) (u := 9) Tryd.underlying22 Tryd.underlying5 Tryd.underlying9
  obtain ⟨f, hf⟩ : ∃ f, f = fs[j] := ⟨_, rfl⟩
  obtain ⟨g, hg⟩ : ∃ g, g = gs[j] := ⟨_, rfl⟩
  simp only [← hf, ← hg] at g0 g0' g0'' g0''' s0 g3 g3' g3'' g3''' s3
  obtain ⟨⟨fk, fv, fo⟩, fb⟩ := f
  obtain ⟨⟨gk, gv, go⟩, gb⟩ := g
  dsimp only at g0 g0' g0'' g0''' s0 g3 g3' g3'' g3''' s3
  have hne : ((fk, fv, fo), fb) ≠ ((gk, gv, go), gb) → ¬ fs = gs := fun h e => h (by rw [hf, hg]; subst e; rfl)
  by_cases hc : fk = gk
  rotate_left
  · have hc1 : (fk != gk) = true := by simpa using hc
    have hn := hne (by simp [hc])
    (repeat' first
      | refine AWP.seq ?_
      | refine AWP.block ?_
      | (refine AWP.skip ?_; try dsimp only [thn, inBlk])
      | (refine AWP.exit ?_; try simp only [thn, inBlk, if_true, reduceIte, Nat.reduceEqDiff])
      | (refine AWP.ret ?_; try dsimp only [thn, inBlk])
      | (refine AWP.condT ?_ ?_; (focus (simp [go_sem, hj1, p0, q0, g0, g0', g0'', g0''', p3, q3, g3, g3', g3'', g3''', hc1]; done)))
      | (refine AWP.condF ?_ ?_; (focus (simp [go_sem, hj1, p0, q0, g0, g0', g0'', g0''', p3, q3, g3, g3', g3'', g3''', hc1]; done)))
      | (apply AWP.rE; (focus (simp [go_sem, hj1, p0, q0, g0, g0', g0'', g0''', p3, q3, g3, g3', g3'', g3''', hc1]; exact ⟨rfl, rfl⟩)); try dsimp only [thn, inBlk])
      | (apply AWP.dE hmix [.n 0 [0], .n 1 [5], .n 2 [17, 18], .n 3 [19], .n 4 [20], .n 5 [1], .n 6 [5], .n 7 [22, 23], .n 8 [24], .n 9 [25], .n 10 [21, 26], .n 11 [27], .n 12 [0, 28], .n 13 [5, 28], .n 14 [29, 30, 28], .n 15 [31, 28], .n 16 [32, 28], .n 17 [1, 28], .n 18 [5, 28], .n 19 [34, 35, 28], .n 20 [36, 28], .n 21 [37, 28], .n 22 [33, 38, 28], .n 23 [28, 39], .n 24 [40], .n 25 [0, 41], .n 26 [5, 41], .n 27 [42, 43, 41], .n 28 [44, 41], .n 29 [45, 41], .n 30 [1, 41], .n 31 [5, 41], .n 32 [47, 48, 41], .n 33 [49, 41], .n 34 [50, 41], .n 35 [46, 51, 41], .n 36 [41, 52], .n 37 [53], .n 38 [0, 54], .n 39 [5, 54], .n 40 [55, 56, 54], .n 41 [57, 54], .n 42 [58, 54], .n 43 [59, 54], .n 44 [1, 54], .n 45 [5, 54], .n 46 [61, 62, 54], .n 47 [63, 54], .n 48 [64, 54], .n 49 [65, 54], .n 50 [60, 66, 54], .n 51 [54, 67]]; (focus kernel_rfl); (focus (simp [go_sem, hj1, p0, q0, g0, g0', g0'', g0''', p3, q3, g3, g3', g3'', g3''', hc1]; exact ⟨rfl, rfl⟩)); try dsimp only [thn, inBlk])
      | fail)
    simp [bodyQ, thn, inBlk, resA, resV, go_sem, hn]
  have hc1 : (fk != gk) = false := by simpa using hc
  by_cases hcv : fv = gv
  rotate_left
  · have hc2 : (fv != gv) = true := by simpa using hcv
    have hn := hne (by simp [hcv])
    (repeat' first
      | refine AWP.seq ?_
      | refine AWP.block ?_
      | (refine AWP.skip ?_; try dsimp only [thn, inBlk])
      | (refine AWP.exit ?_; try simp only [thn, inBlk, if_true, reduceIte, Nat.reduceEqDiff])
      | (refine AWP.ret ?_; try dsimp only [thn, inBlk])
      | (refine AWP.condT ?_ ?_; (focus (simp [go_sem, hj1, p0, q0, g0, g0', g0'', g0''', p3, q3, g3, g3', g3'', g3''', hc1, hc2]; done)))
      | (refine AWP.condF ?_ ?_; (focus (simp [go_sem, hj1, p0, q0, g0, g0', g0'', g0''', p3, q3, g3, g3', g3'', g3''', hc1, hc2]; done)))
      | (apply AWP.rE; (focus (simp [go_sem, hj1, p0, q0, g0, g0', g0'', g0''', p3, q3, g3, g3', g3'', g3''', hc1, hc2]; exact ⟨rfl, rfl⟩)); try dsimp only [thn, inBlk])
      | (apply AWP.dE hmix [.n 0 [0], .n 1 [5], .n 2 [17, 18], .n 3 [19], .n 4 [20], .n 5 [1], .n 6 [5], .n 7 [22, 23], .n 8 [24], .n 9 [25], .n 10 [21, 26], .n 11 [27], .n 12 [0, 28], .n 13 [5, 28], .n 14 [29, 30, 28], .n 15 [31, 28], .n 16 [32, 28], .n 17 [1, 28], .n 18 [5, 28], .n 19 [34, 35, 28], .n 20 [36, 28], .n 21 [37, 28], .n 22 [33, 38, 28], .n 23 [28, 39], .n 24 [40], .n 25 [0, 41], .n 26 [5, 41], .n 27 [42, 43, 41], .n 28 [44, 41], .n 29 [45, 41], .n 30 [1, 41], .n 31 [5, 41], .n 32 [47, 48, 41], .n 33 [49, 41], .n 34 [50, 41], .n 35 [46, 51, 41], .n 36 [41, 52], .n 37 [53], .n 38 [0, 54], .n 39 [5, 54], .n 40 [55, 56, 54], .n 41 [57, 54], .n 42 [58, 54], .n 43 [59, 54], .n 44 [1, 54], .n 45 [5, 54], .n 46 [61, 62, 54], .n 47 [63, 54], .n 48 [64, 54], .n 49 [65, 54], .n 50 [60, 66, 54], .n 51 [54, 67]]; (focus kernel_rfl); (focus (simp [go_sem, hj1, p0, q0, g0, g0', g0'', g0''', p3, q3, g3, g3', g3'', g3''', hc1, hc2]; exact ⟨rfl, rfl⟩)); try dsimp only [thn, inBlk])
      | fail)
    simp [bodyQ, thn, inBlk, resA, resV, go_sem, hn]
  have hc2 : (fv != gv) = false := by simpa using hcv
  by_cases hco : fo = go
  rotate_left
  · have hc3 : (fo != go) = true := by simpa using hco
    have hn := hne (by simp [hco])
    (repeat' first
      | refine AWP.seq ?_
      | refine AWP.block ?_
      | (refine AWP.skip ?_; try dsimp only [thn, inBlk])
      | (refine AWP.exit ?_; try simp only [thn, inBlk, if_true, reduceIte, Nat.reduceEqDiff])
      | (refine AWP.ret ?_; try dsimp only [thn, inBlk])
      | (refine AWP.condT ?_ ?_; (focus (simp [go_sem, hj1, p0, q0, g0, g0', g0'', g0''', p3, q3, g3, g3', g3'', g3''', hc1, hc2, hc3]; done)))
      | (refine AWP.condF ?_ ?_; (focus (simp [go_sem, hj1, p0, q0, g0, g0', g0'', g0''', p3, q3, g3, g3', g3'', g3''', hc1, hc2, hc3]; done)))
      | (apply AWP.rE; (focus (simp [go_sem, hj1, p0, q0, g0, g0', g0'', g0''', p3, q3, g3, g3', g3'', g3''', hc1, hc2, hc3]; exact ⟨rfl, rfl⟩)); try dsimp only [thn, inBlk])
      | (apply AWP.dE hmix [.n 0 [0], .n 1 [5], .n 2 [17, 18], .n 3 [19], .n 4 [20], .n 5 [1], .n 6 [5], .n 7 [22, 23], .n 8 [24], .n 9 [25], .n 10 [21, 26], .n 11 [27], .n 12 [0, 28], .n 13 [5, 28], .n 14 [29, 30, 28], .n 15 [31, 28], .n 16 [32, 28], .n 17 [1, 28], .n 18 [5, 28], .n 19 [34, 35, 28], .n 20 [36, 28], .n 21 [37, 28], .n 22 [33, 38, 28], .n 23 [28, 39], .n 24 [40], .n 25 [0, 41], .n 26 [5, 41], .n 27 [42, 43, 41], .n 28 [44, 41], .n 29 [45, 41], .n 30 [1, 41], .n 31 [5, 41], .n 32 [47, 48, 41], .n 33 [49, 41], .n 34 [50, 41], .n 35 [46, 51, 41], .n 36 [41, 52], .n 37 [53], .n 38 [0, 54], .n 39 [5, 54], .n 40 [55, 56, 54], .n 41 [57, 54], .n 42 [58, 54], .n 43 [59, 54], .n 44 [1, 54], .n 45 [5, 54], .n 46 [61, 62, 54], .n 47 [63, 54], .n 48 [64, 54], .n 49 [65, 54], .n 50 [60, 66, 54], .n 51 [54, 67]]; (focus kernel_rfl); (focus (simp [go_sem, hj1, p0, q0, g0, g0', g0'', g0''', p3, q3, g3, g3', g3'', g3''', hc1, hc2, hc3]; exact ⟨rfl, rfl⟩)); try dsimp only [thn, inBlk])
      | fail)
    simp [bodyQ, thn, inBlk, resA, resV, go_sem, hn]
  have hc3 : (fo != go) = false := by simpa using hco
  by_cases hd : fb = gb
  rotate_left
  · have hd1 : (fb == gb) = false := by simpa using hd
    have hn := hne (by simp [hd])
    (repeat' first
      | refine AWP.seq ?_
      | refine AWP.block ?_
      | (refine AWP.skip ?_; try dsimp only [thn, inBlk])
      | (refine AWP.exit ?_; try simp only [thn, inBlk, if_true, reduceIte, Nat.reduceEqDiff])
      | (refine AWP.ret ?_; try dsimp only [thn, inBlk])
      | (refine AWP.condT ?_ ?_; (focus (simp [go_sem, hj1, p0, q0, g0, g0', g0'', g0''', p3, q3, g3, g3', g3'', g3''', hc1, hc2, hc3, s0, s3, hd1]; done)))
      | (refine AWP.condF ?_ ?_; (focus (simp [go_sem, hj1, p0, q0, g0, g0', g0'', g0''', p3, q3, g3, g3', g3'', g3''', hc1, hc2, hc3, s0, s3, hd1]; done)))
      | (apply AWP.rE; (focus (simp [go_sem, hj1, p0, q0, g0, g0', g0'', g0''', p3, q3, g3, g3', g3'', g3''', hc1, hc2, hc3, s0, s3, hd1]; exact ⟨rfl, rfl⟩)); try dsimp only [thn, inBlk])
      | (apply AWP.dE hmix [.n 0 [0], .n 1 [5], .n 2 [17, 18], .n 3 [19], .n 4 [20], .n 5 [1], .n 6 [5], .n 7 [22, 23], .n 8 [24], .n 9 [25], .n 10 [21, 26], .n 11 [27], .n 12 [0, 28], .n 13 [5, 28], .n 14 [29, 30, 28], .n 15 [31, 28], .n 16 [32, 28], .n 17 [1, 28], .n 18 [5, 28], .n 19 [34, 35, 28], .n 20 [36, 28], .n 21 [37, 28], .n 22 [33, 38, 28], .n 23 [28, 39], .n 24 [40], .n 25 [0, 41], .n 26 [5, 41], .n 27 [42, 43, 41], .n 28 [44, 41], .n 29 [45, 41], .n 30 [1, 41], .n 31 [5, 41], .n 32 [47, 48, 41], .n 33 [49, 41], .n 34 [50, 41], .n 35 [46, 51, 41], .n 36 [41, 52], .n 37 [53], .n 38 [0, 54], .n 39 [5, 54], .n 40 [55, 56, 54], .n 41 [57, 54], .n 42 [58, 54], .n 43 [59, 54], .n 44 [1, 54], .n 45 [5, 54], .n 46 [61, 62, 54], .n 47 [63, 54], .n 48 [64, 54], .n 49 [65, 54], .n 50 [60, 66, 54], .n 51 [54, 67]]; (focus kernel_rfl); (focus (simp [go_sem, hj1, p0, q0, g0, g0', g0'', g0''', p3, q3, g3, g3', g3'', g3''', hc1, hc2, hc3, s0, s3, hd1]; exact ⟨rfl, rfl⟩)); try dsimp only [thn, inBlk])
      | fail)
    simp [bodyQ, thn, inBlk, resA, resV, go_sem, hn]
  have hd1 : (fb == gb) = true := by simpa using hd
  (repeat' first
    | refine AWP.seq ?_
    | refine AWP.block ?_
    | (refine AWP.skip ?_; try dsimp only [thn, inBlk])
    | (refine AWP.exit ?_; try simp only [thn, inBlk, if_true, reduceIte, Nat.reduceEqDiff])
    | (refine AWP.ret ?_; try dsimp only [thn, inBlk])
    | (refine AWP.condT ?_ ?_; (focus (simp [go_sem, hj1, p0, q0, g0, g0', g0'', g0''', p3, q3, g3, g3', g3'', g3''', hc1, hc2, hc3, s0, s3, hd1, w1]; done)))
    | (refine AWP.condF ?_ ?_; (focus (simp [go_sem, hj1, p0, q0, g0, g0', g0'', g0''', p3, q3, g3, g3', g3'', g3''', hc1, hc2, hc3, s0, s3, hd1, w1]; done)))
    | (apply AWP.rE; (focus (simp [go_sem, hj1, p0, q0, g0, g0', g0'', g0''', p3, q3, g3, g3', g3'', g3''', hc1, hc2, hc3, s0, s3, hd1, w1]; exact ⟨rfl, rfl⟩)); try dsimp only [thn, inBlk])
    | (apply AWP.dE hmix [.n 0 [0], .n 1 [5], .n 2 [17, 18], .n 3 [19], .n 4 [20], .n 5 [1], .n 6 [5], .n 7 [22, 23], .n 8 [24], .n 9 [25], .n 10 [21, 26], .n 11 [27], .n 12 [0, 28], .n 13 [5, 28], .n 14 [29, 30, 28], .n 15 [31, 28], .n 16 [32, 28], .n 17 [1, 28], .n 18 [5, 28], .n 19 [34, 35, 28], .n 20 [36, 28], .n 21 [37, 28], .n 22 [33, 38, 28], .n 23 [28, 39], .n 24 [40], .n 25 [0, 41], .n 26 [5, 41], .n 27 [42, 43, 41], .n 28 [44, 41], .n 29 [45, 41], .n 30 [1, 41], .n 31 [5, 41], .n 32 [47, 48, 41], .n 33 [49, 41], .n 34 [50, 41], .n 35 [46, 51, 41], .n 36 [41, 52], .n 37 [53], .n 38 [0, 54], .n 39 [5, 54], .n 40 [55, 56, 54], .n 41 [57, 54], .n 42 [58, 54], .n 43 [59, 54], .n 44 [1, 54], .n 45 [5, 54], .n 46 [61, 62, 54], .n 47 [63, 54], .n 48 [64, 54], .n 49 [65, 54], .n 50 [60, 66, 54], .n 51 [54, 67]]; (focus kernel_rfl); (focus (simp [go_sem, hj1, p0, q0, g0, g0', g0'', g0''', p3, q3, g3, g3', g3'', g3''', hc1, hc2, hc3, s0, s3, hd1, w1]; exact ⟨rfl, rfl⟩)); try dsimp only [thn, inBlk])
    | fail)
  exact ⟨fs.length - (j + 1), by omega, j + 1, by omega, rfl, by simp [go_sem], take_succ_eq ht hj0 (by omega) (by rw [← hf, ← hg, hc, hcv, hco, hd]), rfl⟩

theorem feed_1 : feedR rd0 [97, 255] = ⟨1, 0, 0, 0, [], [((1, 0, 0), [97])], 0⟩ := rfl
theorem feed_2 : feedR ⟨1, 0, 0, 0, [], [((1, 0, 0), [97])], 0⟩ [255, 98] = ⟨0, 0, 0, 0, [], [((1, 0, 0), [255, 98])], 0⟩ := rfl
theorem wr_1 : wr 1 0 0 [97, 255] = [97, 255, 255] := rfl

end L22
