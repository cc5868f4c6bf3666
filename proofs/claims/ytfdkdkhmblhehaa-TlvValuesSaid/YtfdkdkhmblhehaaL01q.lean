import Derived.Test.YtfdkdkhmblhehaaL01p
open Go Ab Go.Proofs
namespace L01
set_option autoImplicit false
set_option linter.unusedSimpArgs false
set_option linter.unusedVariables false

theorem tagIs_calls {O : Old} {h : AHeap} {R : List Chunk} {t z : Int} {w : Value} (k : Own O h R) (hw : w.known = true) (hw2 : okCell w = true) :
    ACalls Try.prog 30 #[.agg #[.int .i64 t, w], .int .i64 z] h fun r h' => r = .bool (t == z) ∧ Own O h' R := by
  refine ACalls.of_awp (args := [.agg #[.int .i64 t, w], .int .i64 z]) (n := 9) Try.func30 rfl rfl (by show 2 ≤ 9; omega) ?_
  have k1 := k.push (.row [.int .i64 t, w] 46 2 true false)
  (repeat' first
    | refine AWP.seq ?_
    | refine AWP.block ?_
    | (refine AWP.skip ?_; try dsimp only [thn, inBlk])
    | (refine AWP.exit ?_; try simp only [thn, inBlk, if_true, reduceIte, Nat.reduceEqDiff])
    | (refine AWP.ret ?_; try dsimp only [thn, inBlk])
    | (refine AWP.condT ?_ ?_; (focus (simp [go_sem, hw, hw2]; done)))
    | (refine AWP.condF ?_ ?_; (focus (simp [go_sem, hw, hw2]; done)))
    | (apply AWP.rE; (focus (simp [go_sem, hw, hw2]; exact ⟨rfl, rfl⟩)); try dsimp only [thn, inBlk])
    | fail)
  simp [bodyQ, thn, inBlk, resA, resV, go_sem]
  exact k1.tail

abbrev FN : Value := .func (.func 30) #[] #[]

set_option maxHeartbeats 4000000 in
theorem equal_calls {O : Old} {h : AHeap} {R : List Chunk} {v w : Value} {fs : List F} {zs : List Int} (k : Own O h R) (hx : ∀ h, Own O h R → Fs h v fs) (hz : ∀ h, Own O h R → Sl 1 h w zs.length (zs.map (.int .i64))) (hl : fs.length ≤ 1000000) (hl2 : zs.length ≤ 1000000) :
    ACalls Try.prog 29 #[v, w, FN] h fun r h' => r = .bool (decide (fs.map Prod.fst = zs)) ∧ Own O h' R := by
  obtain ⟨va, vc, rfl⟩ := (hx h k).val
  obtain ⟨wa, wc, rfl⟩ := (hz h k).val
  refine ACalls.of_awp (args := [.slice va fs.length vc, .slice wa zs.length wc, FN]) (n := 32) Try.func29 rfl rfl (by show 3 ≤ 32; omega) ?_
  by_cases hn : fs.length = zs.length
  rotate_left
  · have hn' : ((fs.length : Int) != zs.length) = true := by simp; omega
    have e : decide (fs.map Prod.fst = zs) = false := decide_eq_false fun e => hn (by rw [← e]; simp)
    rw [e]
    (repeat' first
      | refine AWP.seq ?_
      | refine AWP.block ?_
      | (refine AWP.skip ?_; try dsimp only [thn, inBlk])
      | (refine AWP.exit ?_; try simp only [thn, inBlk, if_true, reduceIte, Nat.reduceEqDiff])
      | (refine AWP.ret ?_; try dsimp only [thn, inBlk])
      | (refine AWP.condT ?_ ?_; (focus (simp [go_sem, hn']; done)))
      | (refine AWP.condF ?_ ?_; (focus (simp [go_sem, hn']; done)))
      | (apply AWP.rE; (focus (simp [go_sem, hn']; exact ⟨rfl, rfl⟩)); try dsimp only [thn, inBlk])
      | fail)
    simp [bodyQ, thn, inBlk, resA, resV, go_sem]
    exact k
  have hn' : ((fs.length : Int) != zs.length) = false := by simp; omega
  (repeat' first
    | refine AWP.seq ?_
    | refine AWP.block ?_
    | (refine AWP.skip ?_; try dsimp only [thn, inBlk])
    | (refine AWP.exit ?_; try simp only [thn, inBlk, if_true, reduceIte, Nat.reduceEqDiff])
    | (refine AWP.ret ?_; try dsimp only [thn, inBlk])
    | (refine AWP.condT ?_ ?_; (focus (simp [go_sem, hn']; done)))
    | (refine AWP.condF ?_ ?_; (focus (simp [go_sem, hn']; done)))
    | (apply AWP.rE; (focus (simp [go_sem, hn']; exact ⟨rfl, rfl⟩)); try dsimp only [thn, inBlk])
    | fail)
  refine AWP.loopR [1, 2, 15, 16, 17] (fun m s h' => ∃ (j : Nat), j ≤ fs.length ∧ m = fs.length - j ∧ (fs.take j).map Prod.fst = zs.take j ∧ s = ⟨32, [(1, .slice wa zs.length wc), (2, FN), (15, .slice va fs.length vc), (16, .int .i64 fs.length), (17, .int .i64 j)]⟩ ∧ Own O h' R) ?_ ?_
  · exact ⟨_, 0, by omega, rfl, by simp, by simp [go_sem], k⟩
  rintro m s h' ⟨j, hj, rfl, he, rfl, kt⟩
  by_cases hj2 : j < fs.length
  rotate_left
  · have hj3 : ¬ (j : Int) < fs.length := by omega
    obtain rfl : j = fs.length := by omega
    rw [List.take_length, hn, List.take_length] at he
    rw [decide_eq_true he]
    (repeat' first
      | refine AWP.seq ?_
      | refine AWP.block ?_
      | (refine AWP.skip ?_; try dsimp only [thn, inBlk])
      | (refine AWP.exit ?_; try simp only [thn, inBlk, if_true, reduceIte, Nat.reduceEqDiff])
      | (refine AWP.ret ?_; try dsimp only [thn, inBlk])
      | (refine AWP.condT ?_ ?_; (focus (simp [go_sem, hj3]; done)))
      | (refine AWP.condF ?_ ?_; (focus (simp [go_sem, hj3]; done)))
      | (apply AWP.rE; (focus (simp [go_sem, hj3]; exact ⟨rfl, rfl⟩)); try dsimp only [thn, inBlk])
      | fail)
    simp [bodyQ, thn, inBlk, resA, resV, go_sem]
    exact kt
  have hj3 : (j : Int) < fs.length := by omega
  have hjz : j < zs.length := by omega
  have wj : IntKind.i64.wrap ((j : Int) + 1) = ((j + 1 : Nat) : Int) := by rw [wI64 (by omega) (by omega)]; omega
  obtain ⟨bi, bo, bc, be, bz, bt, br, a, cap, q1, q2, q3, q4, q5, q6⟩ := (hx _ kt).at (P := Try.prog) (t := 29) (fun _ => rfl) Try.underlying29 tsz46 hj2 (kd := .i64)
  simp only [pre, List.cons_append, List.nil_append] at q4
  have k2 := kt.push (.row [.int .i64 fs[j].1, .slice a fs[j].2.length cap] 46 2 true false)
  obtain ⟨ci, co, cc, ce, cz, ct, cr, p1, p2, p3⟩ := (hz _ k2.tail).at1 (P := Try.prog) (t := 48) Try.underlying48 tsz3 hjz (x := .int .i64 zs[j]) (by rw [List.getElem?_map, List.getElem?_eq_getElem hjz]; rfl) (kd := .i64)
  have c2 := k2.obj
  have tj1 : fs.take (j + 1) = fs.take j ++ [fs[j]] := List.take_succ_eq_append_getElem hj2
  have tj2 : zs.take (j + 1) = zs.take j ++ [zs[j]] := List.take_succ_eq_append_getElem hjz
  (repeat' first
    | refine AWP.seq ?_
    | refine AWP.block ?_
    | (refine AWP.skip ?_; try dsimp only [thn, inBlk])
    | (refine AWP.exit ?_; try simp only [thn, inBlk, if_true, reduceIte, Nat.reduceEqDiff])
    | (refine AWP.ret ?_; try dsimp only [thn, inBlk])
    | (refine AWP.condT ?_ ?_; (focus (simp [go_sem, hj2, hj3, q1, q2, q3, q4, p1, p2, p3]; done)))
    | (refine AWP.condF ?_ ?_; (focus (simp [go_sem, hj2, hj3, q1, q2, q3, q4, p1, p2, p3]; done)))
    | (apply AWP.rE; (focus (simp [go_sem, hj2, hj3, q1, q2, q3, q4, p1, p2, p3]; exact ⟨rfl, rfl⟩)); try dsimp only [thn, inBlk])
    | fail)
  refine AWP.callE (by simp [go_sem, c2]; exact ⟨rfl, rfl, rfl, rfl, rfl⟩) (by kernel_rfl) ?_
  refine (tagIs_calls (w := .slice a fs[j].2.length cap) k2 rfl rfl).mono ?_
  rintro r h5 ⟨rfl, k5⟩
  by_cases ht : fs[j].1 = zs[j]
  · have ht' : (fs[j].1 == zs[j]) = true := by simpa using ht
    rw [ht']
    refine awpL_restE (by simp [go_sem]; exact ⟨rfl, rfl⟩) ?_; try dsimp only [thn, inBlk]
    (repeat' first
      | refine AWP.seq ?_
      | refine AWP.block ?_
      | (refine AWP.skip ?_; try dsimp only [thn, inBlk])
      | (refine AWP.exit ?_; try simp only [thn, inBlk, if_true, reduceIte, Nat.reduceEqDiff])
      | (refine AWP.ret ?_; try dsimp only [thn, inBlk])
      | (refine AWP.condT ?_ ?_; (focus (simp [go_sem, wj]; done)))
      | (refine AWP.condF ?_ ?_; (focus (simp [go_sem, wj]; done)))
      | (apply AWP.rE; (focus (simp [go_sem, wj]; exact ⟨rfl, rfl⟩)); try dsimp only [thn, inBlk])
      | fail)
    exact ⟨fs.length - (j + 1), by omega, j + 1, by omega, rfl, by rw [tj1, tj2, List.map_append, he, ← ht]; rfl, by simp [go_sem], k5.tail⟩
  · have ht' : (fs[j].1 == zs[j]) = false := by simpa using ht
    rw [ht']
    have e : decide (fs.map Prod.fst = zs) = false := decide_eq_false fun e => ht (by
      have := congrArg (fun l => l[j]?) e
      simpa [List.getElem?_eq_getElem hj2, List.getElem?_eq_getElem hjz] using this)
    rw [e]
    refine awpL_restE (by simp [go_sem]; exact ⟨rfl, rfl⟩) ?_; try dsimp only [thn, inBlk]
    (repeat' first
      | refine AWP.seq ?_
      | refine AWP.block ?_
      | (refine AWP.skip ?_; try dsimp only [thn, inBlk])
      | (refine AWP.exit ?_; try simp only [thn, inBlk, if_true, reduceIte, Nat.reduceEqDiff])
      | (refine AWP.ret ?_; try dsimp only [thn, inBlk])
      | (refine AWP.condT ?_ ?_; (focus (simp [go_sem]; done)))
      | (refine AWP.condF ?_ ?_; (focus (simp [go_sem]; done)))
      | (apply AWP.rE; (focus (simp [go_sem]; exact ⟨rfl, rfl⟩)); try dsimp only [thn, inBlk])
      | fail)
    simp [bodyQ, thn, inBlk, resA, resV, go_sem]
    exact k5.tail
end L01
