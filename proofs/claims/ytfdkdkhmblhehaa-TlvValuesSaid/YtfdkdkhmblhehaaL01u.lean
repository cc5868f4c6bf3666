import Derived.Test.YtfdkdkhmblhehaaL01s
open Go Ab Go.Proofs
namespace L01
set_option autoImplicit false
set_option linter.unusedSimpArgs false
set_option linter.unusedVariables false

theorem txs_new {O : Old} {h : AHeap} {R : List Chunk} (k : Own O h R) : Own O (h.push (.row [] 24 1 true false)) (txs (.slice (some ⟨h.next, 0, none⟩) 0 0) [] :: R) := (k.push (.row [] 24 1 true false)).grecs_new

set_option maxHeartbeats 8000000 in
theorem refValues_calls {O : Old} {h : AHeap} {R : List Chunk} {v w : Value} {bs : List UInt8} {zs : List Int} (k : Own O h R) (hx : ∀ h, Own O h R → Bytes h v bs) (hz : ∀ h, Own O h R → Sl 1 h w zs.length (zs.map (.int .i64))) (hm : bs.length ≤ 1000000) (hl2 : zs.length ≤ 1000000) :
    ACalls Try.prog 24 #[v, w] h fun r h' => ∃ a c, r = .tuple #[.slice a (valR bs zs).1.length c, .int .i64 (valR bs zs).2] ∧ Own O h' (txs (.slice a (valR bs zs).1.length c) (valR bs zs).1 :: R) := by
  obtain ⟨va, vc, rfl⟩ := (hx h k).val
  obtain ⟨wa, wc, rfl⟩ := (hz h k).val
  refine ACalls.of_awp (args := [.slice va bs.length vc, .slice wa zs.length wc]) (n := 52) Try.func24 rfl rfl (by show 2 ≤ 52; omega) ?_
  (repeat' first
    | refine AWP.seq ?_
    | refine AWP.block ?_
    | (refine AWP.skip ?_; try dsimp only [thn, inBlk])
    | (refine AWP.exit ?_; try simp only [thn, inBlk, if_true, reduceIte, Nat.reduceEqDiff])
    | (refine AWP.ret ?_; try dsimp only [thn, inBlk])
    | (refine AWP.condT ?_ ?_; (focus (simp [go_sem]; done)))
    | (refine AWP.condF ?_ ?_; (focus (simp [go_sem]; done)))
    | (apply AWP.rE; (focus (simp [go_sem]; exact ⟨rfl, rfl⟩)); try dsimp only [thn, inBlk])
    | (apply AWP.dE hmix [.n 0 [6], .n 1 [9], .n 2 [32, 33], .n 3 [34], .n 4 [35], .n 5 [1], .n 6 [9], .n 7 [37, 38], .n 8 [39], .n 9 [36, 40]]; (focus kernel_rfl); (focus (simp [go_sem]; exact ⟨rfl, rfl⟩)); try dsimp only [thn, inBlk])
    | fail)
  refine AWP.callE (by simp [go_sem]; exact ⟨rfl, rfl, rfl, rfl, rfl⟩) (by kernel_rfl) ?_
  refine (refSplit_calls k hx hm).mono ?_
  rintro r h1 ⟨fa, fc, rfl, k1⟩
  have hsl := splitGo_len bs []
  unfold valR
  generalize hE : T1.splitGo [] bs = E at *
  obtain ⟨fs, er⟩ := E
  simp only [List.length_nil, Nat.zero_add] at k1 hsl ⊢
  have k1n := txs_new k1
  by_cases her : er = 0
  rotate_left
  · have her' : (er != 0) = true := by simpa using her
    rw [if_pos her]
    refine awpL_restE (by simp [go_sem]; exact ⟨rfl, rfl⟩) ?_; try dsimp only [thn, inBlk]
    (repeat' first
      | refine AWP.seq ?_
      | refine AWP.block ?_
      | (refine AWP.skip ?_; try dsimp only [thn, inBlk])
      | (refine AWP.exit ?_; try simp only [thn, inBlk, if_true, reduceIte, Nat.reduceEqDiff])
      | (refine AWP.ret ?_; try dsimp only [thn, inBlk])
      | (refine AWP.condT ?_ ?_; (focus (simp [go_sem, her']; done)))
      | (refine AWP.condF ?_ ?_; (focus (simp [go_sem, her']; done)))
      | (apply AWP.rE; (focus (simp [go_sem, her']; exact ⟨rfl, rfl⟩)); try dsimp only [thn, inBlk])
      | (apply AWP.dE hmix [.n 0 [6], .n 1 [9], .n 2 [32, 33], .n 3 [34], .n 4 [35], .n 5 [1], .n 6 [9], .n 7 [37, 38], .n 8 [39], .n 9 [36, 40]]; (focus kernel_rfl); (focus (simp [go_sem, her']; exact ⟨rfl, rfl⟩)); try dsimp only [thn, inBlk])
      | fail)
    simp [bodyQ, thn, inBlk, resA, resV, go_sem]
    exact ⟨_, _, ⟨rfl, rfl⟩, k1n.d1⟩
  subst her
  rw [if_neg (by simp)]
  by_cases hn : fs.length = zs.length
  rotate_left
  · have hn' : ((fs.length : Int) != zs.length) = true := by simp; omega
    rw [if_neg (fun e => hn (by rw [← e]; simp))]
    refine awpL_restE (by simp [go_sem]; exact ⟨rfl, rfl⟩) ?_; try dsimp only [thn, inBlk]
    (repeat' first
      | refine AWP.seq ?_
      | refine AWP.block ?_
      | (refine AWP.skip ?_; try dsimp only [thn, inBlk])
      | (refine AWP.exit ?_; try simp only [thn, inBlk, if_true, reduceIte, Nat.reduceEqDiff])
      | (refine AWP.ret ?_; try dsimp only [thn, inBlk])
      | (refine AWP.condT ?_ ?_; (focus (simp [go_sem, hn']; done)))
      | (refine AWP.condF ?_ ?_; (focus (simp [go_sem, hn']; done)))
      | (apply AWP.rE; (focus (simp [go_sem, hn']; exact ⟨rfl, rfl⟩)); try dsimp only [thn, inBlk])
      | (apply AWP.dE hmix [.n 0 [6], .n 1 [9], .n 2 [32, 33], .n 3 [34], .n 4 [35], .n 5 [1], .n 6 [9], .n 7 [37, 38], .n 8 [39], .n 9 [36, 40]]; (focus kernel_rfl); (focus (simp [go_sem, hn']; exact ⟨rfl, rfl⟩)); try dsimp only [thn, inBlk])
      | fail)
    simp [bodyQ, thn, inBlk, resA, resV, go_sem]
    exact ⟨_, _, ⟨rfl, rfl⟩, k1n.d1⟩
  have hn' : ((fs.length : Int) != zs.length) = false := by simp; omega
  obtain ⟨ac, ha, k2⟩ := brecs_iff.1 k1
  have k3 : Own O _ (os 24 1 (.slice (some ⟨h1.next, 0, none⟩) 0 0) 0 [] :: _) := (k2.push (.row [] 24 1 true false)).os_mk (n := 0) (cap := 0) (off := 0) (cs := []) (Nat.le_refl _) (by simp) (by rfl)
  refine awpL_restE (by simp [go_sem]; exact ⟨rfl, rfl⟩) ?_; try dsimp only [thn, inBlk]
  (repeat' first
    | refine AWP.seq ?_
    | refine AWP.block ?_
    | (refine AWP.skip ?_; try dsimp only [thn, inBlk])
    | (refine AWP.exit ?_; try simp only [thn, inBlk, if_true, reduceIte, Nat.reduceEqDiff])
    | (refine AWP.ret ?_; try dsimp only [thn, inBlk])
    | (refine AWP.condT ?_ ?_; (focus (simp [go_sem, hn']; done)))
    | (refine AWP.condF ?_ ?_; (focus (simp [go_sem, hn']; done)))
    | (apply AWP.rE; (focus (simp [go_sem, hn']; exact ⟨rfl, rfl⟩)); try dsimp only [thn, inBlk])
    | (apply AWP.dE hmix [.n 0 [6], .n 1 [9], .n 2 [32, 33], .n 3 [34], .n 4 [35], .n 5 [1], .n 6 [9], .n 7 [37, 38], .n 8 [39], .n 9 [36, 40]]; (focus kernel_rfl); (focus (simp [go_sem, hn']; exact ⟨rfl, rfl⟩)); try dsimp only [thn, inBlk])
    | fail)
  refine AWP.loopR [1, 6, 8, 9] (fun m s h' => ∃ (j : Nat) (a : Option Addr) (c : Nat), j ≤ fs.length ∧ m = fs.length - j ∧ (fs.take j).map Prod.fst = zs.take j ∧ s = ⟨52, [(1, .slice wa zs.length wc), (6, .slice fa fs.length fc), (8, .slice a j c), (9, .int .i64 j)]⟩ ∧
    Own O h' (os 24 1 (.slice a j c) j ((vs fs ac).take j) :: os 46 2 (.slice fa fs.length fc) fs.length (rcells pre fs ac).flatten :: (rbods 5 fs ac ++ R))) ?_ ?_
  · exact ⟨_, 0, some ⟨h1.next, 0, none⟩, 0, by omega, rfl, by simp, by simp [go_sem], k3⟩
  rintro m s h' ⟨j, a, c, hj, rfl, he, rfl, kt⟩
  have kR : Own O h' R := kt.tail.tail.rest
  by_cases hj2 : j < fs.length
  rotate_left
  · have hj3 : ¬ (j : Int) < fs.length := by omega
    obtain rfl : j = fs.length := by omega
    rw [List.take_length, hn, List.take_length] at he
    rw [if_pos he]
    rw [List.take_of_length_le (by rw [vs_len ha]; omega)] at kt
    (repeat' first
      | refine AWP.seq ?_
      | refine AWP.block ?_
      | (refine AWP.skip ?_; try dsimp only [thn, inBlk])
      | (refine AWP.exit ?_; try simp only [thn, inBlk, if_true, reduceIte, Nat.reduceEqDiff])
      | (refine AWP.ret ?_; try dsimp only [thn, inBlk])
      | (refine AWP.condT ?_ ?_; (focus (simp [go_sem, hj3]; done)))
      | (refine AWP.condF ?_ ?_; (focus (simp [go_sem, hj3]; done)))
      | (apply AWP.rE; (focus (simp [go_sem, hj3]; exact ⟨rfl, rfl⟩)); try dsimp only [thn, inBlk])
      | (apply AWP.dE hmix [.n 0 [6], .n 1 [9], .n 2 [32, 33], .n 3 [34], .n 4 [35], .n 5 [1], .n 6 [9], .n 7 [37, 38], .n 8 [39], .n 9 [36, 40]]; (focus kernel_rfl); (focus (simp [go_sem, hj3]; exact ⟨rfl, rfl⟩)); try dsimp only [thn, inBlk])
      | fail)
    simp [bodyQ, thn, inBlk, resA, resV, go_sem]
    refine ⟨_, _, ⟨rfl, rfl⟩, grecs_iff.2 ⟨ac, by simp [ha], ?_⟩⟩
    rw [tx_cells, tx_subs, List.length_map]
    exact kt.d1
  have hj3 : (j : Int) < fs.length := by omega
  have hja : j < ac.length := by omega
  have hjz : j < zs.length := by omega
  have wj : IntKind.i64.wrap ((j : Int) + 1) = ((j + 1 : Nat) : Int) := by rw [wI64 (by omega) (by omega)]; omega
  obtain ⟨bi, bo, bc, be, bz, bt, br, q1, q2, q3, q4, q5, q6⟩ := fcell_at ha kt.b1.os_sl hj2 hja
  obtain ⟨ci, co, cc, ce, cz, ct, cr, p1, p2, p3⟩ := (hz _ kR).at1 (P := Try.prog) (t := 48) Try.underlying48 tsz3 hjz (x := .int .i64 zs[j]) (by rw [List.getElem?_map, List.getElem?_eq_getElem hjz]; rfl) (kd := .i64)
  have hvt := vs_take hj2 hja
  have tj1 : fs.take (j + 1) = fs.take j ++ [fs[j]] := List.take_succ_eq_append_getElem hj2
  have tj2 : zs.take (j + 1) = zs.take j ++ [zs[j]] := List.take_succ_eq_append_getElem hjz
  by_cases ht : fs[j].1 = zs[j]
  · have ht' : (fs[j].1 != zs[j]) = false := by simpa using ht
    obtain ⟨a5, c5, h5, e5, k5⟩ := Own.appN (P := Try.prog) (t := 49) (xt := 49) (m := 1) (xs := [.slice ac[j].1 fs[j].2.length ac[j].2]) (i := h'.next) Try.underlying49 tsz24 tby24 tz24 nI49 (by omega) (by omega) rfl kt rfl rfl rfl (by omega)
    (repeat' first
      | refine AWP.seq ?_
      | refine AWP.block ?_
      | (refine AWP.skip ?_; try dsimp only [thn, inBlk])
      | (refine AWP.exit ?_; try simp only [thn, inBlk, if_true, reduceIte, Nat.reduceEqDiff])
      | (refine AWP.ret ?_; try dsimp only [thn, inBlk])
      | (refine AWP.condT ?_ ?_; (focus (simp [go_sem, hj2, hj3, q1, q2, q3, q5, q6, p1, p2, p3, ht', e5, wj]; done)))
      | (refine AWP.condF ?_ ?_; (focus (simp [go_sem, hj2, hj3, q1, q2, q3, q5, q6, p1, p2, p3, ht', e5, wj]; done)))
      | (apply AWP.rE; (focus (simp [go_sem, hj2, hj3, q1, q2, q3, q5, q6, p1, p2, p3, ht', e5, wj]; exact ⟨rfl, rfl⟩)); try dsimp only [thn, inBlk])
      | (apply AWP.dE hmix [.n 0 [6], .n 1 [9], .n 2 [32, 33], .n 3 [34], .n 4 [35], .n 5 [1], .n 6 [9], .n 7 [37, 38], .n 8 [39], .n 9 [36, 40]]; (focus kernel_rfl); (focus (simp [go_sem, hj2, hj3, q1, q2, q3, q5, q6, p1, p2, p3, ht', e5, wj]; exact ⟨rfl, rfl⟩)); try dsimp only [thn, inBlk])
      | fail)
    refine ⟨fs.length - (j + 1), by omega, j + 1, a5, c5, by omega, rfl, by rw [tj1, tj2, List.map_append, he, ← ht]; rfl, by simp [go_sem], ?_⟩
    rw [hvt]
    exact k5
  · have ht' : (fs[j].1 != zs[j]) = true := by simpa using ht
    rw [if_neg (fun e => ht (by
      have := congrArg (fun l => l[j]?) e
      simpa [List.getElem?_eq_getElem hj2, List.getElem?_eq_getElem hjz] using this))]
    have kf := txs_new kR
    (repeat' first
      | refine AWP.seq ?_
      | refine AWP.block ?_
      | (refine AWP.skip ?_; try dsimp only [thn, inBlk])
      | (refine AWP.exit ?_; try simp only [thn, inBlk, if_true, reduceIte, Nat.reduceEqDiff])
      | (refine AWP.ret ?_; try dsimp only [thn, inBlk])
      | (refine AWP.condT ?_ ?_; (focus (simp [go_sem, hj2, hj3, q1, q2, q3, q5, q6, p1, p2, p3, ht']; done)))
      | (refine AWP.condF ?_ ?_; (focus (simp [go_sem, hj2, hj3, q1, q2, q3, q5, q6, p1, p2, p3, ht']; done)))
      | (apply AWP.rE; (focus (simp [go_sem, hj2, hj3, q1, q2, q3, q5, q6, p1, p2, p3, ht']; exact ⟨rfl, rfl⟩)); try dsimp only [thn, inBlk])
      | (apply AWP.dE hmix [.n 0 [6], .n 1 [9], .n 2 [32, 33], .n 3 [34], .n 4 [35], .n 5 [1], .n 6 [9], .n 7 [37, 38], .n 8 [39], .n 9 [36, 40]]; (focus kernel_rfl); (focus (simp [go_sem, hj2, hj3, q1, q2, q3, q5, q6, p1, p2, p3, ht']; exact ⟨rfl, rfl⟩)); try dsimp only [thn, inBlk])
      | fail)
    simp [bodyQ, thn, inBlk, resA, resV, go_sem]
    exact ⟨_, _, ⟨rfl, rfl⟩, kf⟩

set_option maxHeartbeats 8000000 in
theorem sameTexts_calls {h : AHeap} {v w : Value} {xs ys : List (List UInt8)} (hx : Pcs h v xs) (hy : Pcs h w ys) (hl : xs.length ≤ 1000000) :
    ACalls Try.prog 25 #[v, w] h fun r h' => r = .bool (decide (xs = ys)) ∧ h' = h := by
  obtain ⟨va, vc, rfl⟩ := hx.val
  obtain ⟨wa, wc, rfl⟩ := hy.val
  refine ACalls.of_awp (args := [.slice va xs.length vc, .slice wa ys.length wc]) (n := 28) Try.func25 rfl rfl (by show 2 ≤ 28; omega) ?_
  by_cases hn : xs.length = ys.length
  rotate_left
  · have hn' : ((xs.length : Int) != ys.length) = true := by simp; omega
    rw [decide_eq_false (fun e => hn (by rw [e]))]
    (repeat' first
      | refine AWP.seq ?_
      | refine AWP.block ?_
      | (refine AWP.skip ?_; try dsimp only [thn, inBlk])
      | (refine AWP.exit ?_; try simp only [thn, inBlk, if_true, reduceIte, Nat.reduceEqDiff])
      | (refine AWP.ret ?_; try dsimp only [thn, inBlk])
      | (refine AWP.condT ?_ ?_; (focus (simp [go_sem, hn']; done)))
      | (refine AWP.condF ?_ ?_; (focus (simp [go_sem, hn']; done)))
      | (apply AWP.rE; (focus (simp [go_sem, hn']; exact ⟨rfl, rfl⟩)); try dsimp only [thn, inBlk])
      | (apply AWP.dE hmix [.n 0 [0], .n 1 [5], .n 2 [17, 18], .n 3 [19], .n 4 [20], .n 5 [1], .n 6 [5], .n 7 [22, 23], .n 8 [24], .n 9 [25], .n 10 [21, 26]]; (focus kernel_rfl); (focus (simp [go_sem, hn']; exact ⟨rfl, rfl⟩)); try dsimp only [thn, inBlk])
      | fail)
    simp [bodyQ, thn, inBlk, resA, resV, go_sem]
  have hn' : ((xs.length : Int) != ys.length) = false := by simp; omega
  (repeat' first
    | refine AWP.seq ?_
    | refine AWP.block ?_
    | (refine AWP.skip ?_; try dsimp only [thn, inBlk])
    | (refine AWP.exit ?_; try simp only [thn, inBlk, if_true, reduceIte, Nat.reduceEqDiff])
    | (refine AWP.ret ?_; try dsimp only [thn, inBlk])
    | (refine AWP.condT ?_ ?_; (focus (simp [go_sem, hn']; done)))
    | (refine AWP.condF ?_ ?_; (focus (simp [go_sem, hn']; done)))
    | (apply AWP.rE; (focus (simp [go_sem, hn']; exact ⟨rfl, rfl⟩)); try dsimp only [thn, inBlk])
    | (apply AWP.dE hmix [.n 0 [0], .n 1 [5], .n 2 [17, 18], .n 3 [19], .n 4 [20], .n 5 [1], .n 6 [5], .n 7 [22, 23], .n 8 [24], .n 9 [25], .n 10 [21, 26]]; (focus kernel_rfl); (focus (simp [go_sem, hn']; exact ⟨rfl, rfl⟩)); try dsimp only [thn, inBlk])
    | fail)
  refine AWP.loopR [0, 1, 5] (fun m s h' => ∃ (j : Nat), j ≤ xs.length ∧ m = xs.length - j ∧ xs.take j = ys.take j ∧ s = ⟨28, [(0, .slice va xs.length vc), (1, .slice wa ys.length wc), (5, .int .i64 j)]⟩ ∧ h' = h) ?_ ?_
  · exact ⟨_, 0, by omega, rfl, by simp, by simp [go_sem], rfl⟩
  rintro m s h' ⟨j, hj, rfl, he, rfl, rfl⟩
  by_cases hj2 : j < xs.length
  rotate_left
  · have hj3 : ¬ (j : Int) < xs.length := by omega
    obtain rfl : j = xs.length := by omega
    rw [List.take_length, hn, List.take_length] at he
    rw [decide_eq_true he]
    (repeat' first
      | refine AWP.seq ?_
      | refine AWP.block ?_
      | (refine AWP.skip ?_; try dsimp only [thn, inBlk])
      | (refine AWP.exit ?_; try simp only [thn, inBlk, if_true, reduceIte, Nat.reduceEqDiff])
      | (refine AWP.ret ?_; try dsimp only [thn, inBlk])
      | (refine AWP.condT ?_ ?_; (focus (simp [go_sem, hj3]; done)))
      | (refine AWP.condF ?_ ?_; (focus (simp [go_sem, hj3]; done)))
      | (apply AWP.rE; (focus (simp [go_sem, hj3]; exact ⟨rfl, rfl⟩)); try dsimp only [thn, inBlk])
      | (apply AWP.dE hmix [.n 0 [0], .n 1 [5], .n 2 [17, 18], .n 3 [19], .n 4 [20], .n 5 [1], .n 6 [5], .n 7 [22, 23], .n 8 [24], .n 9 [25], .n 10 [21, 26]]; (focus kernel_rfl); (focus (simp [go_sem, hj3]; exact ⟨rfl, rfl⟩)); try dsimp only [thn, inBlk])
      | fail)
    simp [bodyQ, thn, inBlk, resA, resV, go_sem]
  have hj3 : (j : Int) < xs.length := by omega
  have hjy : j < ys.length := by omega
  have wj : IntKind.i64.wrap ((j : Int) + 1) = ((j + 1 : Nat) : Int) := by rw [wI64 (by omega) (by omega)]; omega
  obtain ⟨bi, bo, bc, be, bz, bt, br, xa, xc, q1, q2, q3, q4⟩ := hx.at (P := Try.prog) (t := 49) Try.underlying49 tsz24 hj2 (kd := .i64)
  obtain ⟨ci, co, cc, ce, cz, ct, cr, ya, yc, p1, p2, p3, p4⟩ := hy.at (P := Try.prog) (t := 49) Try.underlying49 tsz24 hjy (kd := .i64)
  have s1 := q4.str (P := Try.prog) (t := 24) (e := 5) (u := 9) Try.underlying24 Try.underlying5 Try.underlying9
  have s2 := p4.str (P := Try.prog) (t := 24) (e := 5) (u := 9) Try.underlying24 Try.underlying5 Try.underlying9
  have tj1 : xs.take (j + 1) = xs.take j ++ [xs[j]] := List.take_succ_eq_append_getElem hj2
  have tj2 : ys.take (j + 1) = ys.take j ++ [ys[j]] := List.take_succ_eq_append_getElem hjy
  by_cases ht : xs[j] = ys[j]
  · have ht' : (xs[j] == ys[j]) = true := by simpa using ht
    (repeat' first
      | refine AWP.seq ?_
      | refine AWP.block ?_
      | (refine AWP.skip ?_; try dsimp only [thn, inBlk])
      | (refine AWP.exit ?_; try simp only [thn, inBlk, if_true, reduceIte, Nat.reduceEqDiff])
      | (refine AWP.ret ?_; try dsimp only [thn, inBlk])
      | (refine AWP.condT ?_ ?_; (focus (simp [go_sem, hj2, hj3, q1, q2, q3, p1, p2, p3, s1, s2, ht', wj]; done)))
      | (refine AWP.condF ?_ ?_; (focus (simp [go_sem, hj2, hj3, q1, q2, q3, p1, p2, p3, s1, s2, ht', wj]; done)))
      | (apply AWP.rE; (focus (simp [go_sem, hj2, hj3, q1, q2, q3, p1, p2, p3, s1, s2, ht', wj]; exact ⟨rfl, rfl⟩)); try dsimp only [thn, inBlk])
      | (apply AWP.dE hmix [.n 0 [0], .n 1 [5], .n 2 [17, 18], .n 3 [19], .n 4 [20], .n 5 [1], .n 6 [5], .n 7 [22, 23], .n 8 [24], .n 9 [25], .n 10 [21, 26]]; (focus kernel_rfl); (focus (simp [go_sem, hj2, hj3, q1, q2, q3, p1, p2, p3, s1, s2, ht', wj]; exact ⟨rfl, rfl⟩)); try dsimp only [thn, inBlk])
      | fail)
    exact ⟨xs.length - (j + 1), by omega, j + 1, by omega, rfl, by rw [tj1, tj2, he, ht], by simp [go_sem], rfl⟩
  · have ht' : (xs[j] == ys[j]) = false := by simpa using ht
    rw [decide_eq_false (fun e => ht (by subst e; rfl))]
    (repeat' first
      | refine AWP.seq ?_
      | refine AWP.block ?_
      | (refine AWP.skip ?_; try dsimp only [thn, inBlk])
      | (refine AWP.exit ?_; try simp only [thn, inBlk, if_true, reduceIte, Nat.reduceEqDiff])
      | (refine AWP.ret ?_; try dsimp only [thn, inBlk])
      | (refine AWP.condT ?_ ?_; (focus (simp [go_sem, hj2, hj3, q1, q2, q3, p1, p2, p3, s1, s2, ht']; done)))
      | (refine AWP.condF ?_ ?_; (focus (simp [go_sem, hj2, hj3, q1, q2, q3, p1, p2, p3, s1, s2, ht']; done)))
      | (apply AWP.rE; (focus (simp [go_sem, hj2, hj3, q1, q2, q3, p1, p2, p3, s1, s2, ht']; exact ⟨rfl, rfl⟩)); try dsimp only [thn, inBlk])
      | (apply AWP.dE hmix [.n 0 [0], .n 1 [5], .n 2 [17, 18], .n 3 [19], .n 4 [20], .n 5 [1], .n 6 [5], .n 7 [22, 23], .n 8 [24], .n 9 [25], .n 10 [21, 26]]; (focus kernel_rfl); (focus (simp [go_sem, hj2, hj3, q1, q2, q3, p1, p2, p3, s1, s2, ht']; exact ⟨rfl, rfl⟩)); try dsimp only [thn, inBlk])
      | fail)
    simp [bodyQ, thn, inBlk, resA, resV, go_sem]
end L01
