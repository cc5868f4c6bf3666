import Derived.Test.YtomcliklmfkaoaaL15i
import Derived.Test.YtomcliklmfkaoaaAbY4
open Go Ab Go.Proofs
namespace L15
set_option autoImplicit false
set_option linter.unusedSimpArgs false
set_option linter.unusedVariables false

/-! ### What comes in -/
theorem bools_of {h : AHeap} {d : Dt} {v : Value} (q : Has Try.prog h d 30 [v]) : ∃ ks : List Bool, ks.length ≤ 9223372036854775807 ∧ Sl 1 h v ks.length (ks.map Value.bool) := by
  obtain ⟨v', rs, e, hl, hs, hr⟩ := q.sl_inv Try.underlying30
  cases e
  obtain ⟨ks, rfl, _⟩ := map_of (f := fun b => [Value.bool b]) (p := fun _ => True) (rs := rs) fun r hm => by
    obtain ⟨_, d, hh⟩ := hr r hm
    obtain ⟨b, hb⟩ := hh.bool_inv Try.underlying4
    exact ⟨b, hb, trivial⟩
  have c1 : Try.prog.cellsOf 4 = 1 := by kernel_rfl
  rw [c1] at hs
  have e2 : (ks.map fun b => [Value.bool b]).flatten = ks.map Value.bool := by
    clear hs hr hl
    induction ks with
    | nil => rfl
    | cons x l ih => simp [ih]
  rw [e2, List.length_map] at hs
  rw [List.length_map] at hl
  exact ⟨ks, hl, hs⟩
theorem two_of {h : AHeap} {d : Dt} {cs : List Value} (q : Has Try.prog h d 24 cs) : ∃ a b : List UInt8, cs = [.string ⟨a.toArray⟩, .string ⟨b.toArray⟩] := by
  obtain ⟨h1, h2⟩ := q.arr_inv Try.underlying24
  have c1 : Try.prog.cellsOf 9 = 1 := by kernel_rfl
  have c2 : Try.prog.cellsOf 24 = 2 := by kernel_rfl
  rw [c2] at h1
  rw [c1] at h2
  obtain ⟨x, y, rfl⟩ : ∃ x y, cs = [x, y] := by
    match cs, h1 with
    | [x, y], _ => exact ⟨x, y, rfl⟩
  obtain ⟨_, p1⟩ := h2 0 (by omega)
  obtain ⟨_, p2⟩ := h2 1 (by omega)
  obtain ⟨a, ha, _⟩ := p1.str_inv Try.underlying9
  obtain ⟨b, hb, _⟩ := p2.str_inv Try.underlying9
  simp at ha hb
  exact ⟨a, b, by rw [ha, hb]⟩

set_option maxHeartbeats 8000000 in
theorem parts_calls {h : AHeap} {p q a b : List UInt8} (hb : h.base = h.next) (h1 : a.length ≤ 140737488355328) (h2 : b.length ≤ 140737488355328) :
    ACalls Try.prog 4 #[.agg #[.string ⟨p.toArray⟩, .string ⟨q.toArray⟩], .string ⟨a.toArray⟩, .string ⟨b.toArray⟩] h fun r _ => r = .bool true := by
  refine Own.of_wf fun k0 => ?_
  refine ACalls.of_awp (args := [.agg #[.string ⟨p.toArray⟩, .string ⟨q.toArray⟩], .string ⟨a.toArray⟩, .string ⟨b.toArray⟩]) (n := 62) Try.func4 rfl rfl (by show 3 ≤ 62; omega) ?_
  (repeat' first
    | refine AWP.seq ?_
    | refine AWP.block ?_
    | (refine AWP.skip ?_; try dsimp only [thn, inBlk])
    | (refine AWP.exit ?_; try simp only [thn, inBlk, if_true, reduceIte, Nat.reduceEqDiff])
    | (refine AWP.ret ?_; try dsimp only [thn, inBlk])
    | (refine AWP.condT ?_ ?_; (focus (simp [go_sem]; done)))
    | (refine AWP.condF ?_ ?_; (focus (simp [go_sem]; done)))
    | (apply AWP.rE; (focus (simp [go_sem]; exact ⟨rfl, rfl⟩)); try dsimp only [thn, inBlk])
    | (apply AWP.dE hmix [.n 0 [3], .n 1 [11], .n 2 [3], .n 3 [13], .n 4 [12], .n 5 [14]]; (focus kernel_rfl); (focus (simp [go_sem]; exact ⟨rfl, rfl⟩)); try dsimp only [thn, inBlk])
    | fail)
  refine AWP.callE (by simp [go_sem]; exact ⟨rfl, rfl, rfl, rfl, rfl⟩) (by kernel_rfl) ?_
  refine (speaks_calls (k0.push (.row [.string ⟨p.toArray⟩, .string ⟨q.toArray⟩] 24 2 true false))).mono ?_
  rintro r hh ⟨rfl, k1⟩
  have cx := k1.obj
  refine awpL_restE (by simp [go_sem]; exact ⟨rfl, rfl⟩) ?_; try dsimp only [thn, inBlk]
  (repeat' first
    | refine AWP.seq ?_
    | refine AWP.block ?_
    | (refine AWP.skip ?_; try dsimp only [thn, inBlk])
    | (refine AWP.exit ?_; try simp only [thn, inBlk, if_true, reduceIte, Nat.reduceEqDiff])
    | (refine AWP.ret ?_; try dsimp only [thn, inBlk])
    | (refine AWP.condT ?_ ?_; (focus (simp [go_sem, cx]; done)))
    | (refine AWP.condF ?_ ?_; (focus (simp [go_sem, cx]; done)))
    | (apply AWP.rE; (focus (simp [go_sem, cx]; exact ⟨rfl, rfl⟩)); try dsimp only [thn, inBlk])
    | (apply AWP.dE hmix [.n 0 [3], .n 1 [11], .n 2 [3], .n 3 [13], .n 4 [12], .n 5 [14]]; (focus kernel_rfl); (focus (simp [go_sem, cx]; exact ⟨rfl, rfl⟩)); try dsimp only [thn, inBlk])
    | fail)
  by_cases c1 : 16 < p.length
  · have d1 : (16 : Int) < p.length := by omega
    (repeat' first
      | refine AWP.seq ?_
      | refine AWP.block ?_
      | (refine AWP.skip ?_; try dsimp only [thn, inBlk])
      | (refine AWP.exit ?_; try simp only [thn, inBlk, if_true, reduceIte, Nat.reduceEqDiff])
      | (refine AWP.ret ?_; try dsimp only [thn, inBlk])
      | (refine AWP.condT ?_ ?_; (focus (simp [go_sem, d1, c1]; done)))
      | (refine AWP.condF ?_ ?_; (focus (simp [go_sem, d1, c1]; done)))
      | (apply AWP.rE; (focus (simp [go_sem, d1, c1]; exact ⟨rfl, rfl⟩)); try dsimp only [thn, inBlk])
      | (apply AWP.dE hmix [.n 0 [3], .n 1 [11], .n 2 [3], .n 3 [13], .n 4 [12], .n 5 [14]]; (focus kernel_rfl); (focus (simp [go_sem, d1, c1]; exact ⟨rfl, rfl⟩)); try dsimp only [thn, inBlk])
      | fail)
    simp [bodyQ, thn, inBlk, resA, resV, go_sem]
  have d1 : ¬ (16 : Int) < p.length := by omega
  by_cases c2 : 16 < q.length
  · have d2 : (16 : Int) < q.length := by omega
    (repeat' first
      | refine AWP.seq ?_
      | refine AWP.block ?_
      | (refine AWP.skip ?_; try dsimp only [thn, inBlk])
      | (refine AWP.exit ?_; try simp only [thn, inBlk, if_true, reduceIte, Nat.reduceEqDiff])
      | (refine AWP.ret ?_; try dsimp only [thn, inBlk])
      | (refine AWP.condT ?_ ?_; (focus (simp [go_sem, d1, d2, c1, c2]; done)))
      | (refine AWP.condF ?_ ?_; (focus (simp [go_sem, d1, d2, c1, c2]; done)))
      | (apply AWP.rE; (focus (simp [go_sem, d1, d2, c1, c2]; exact ⟨rfl, rfl⟩)); try dsimp only [thn, inBlk])
      | (apply AWP.dE hmix [.n 0 [3], .n 1 [11], .n 2 [3], .n 3 [13], .n 4 [12], .n 5 [14]]; (focus kernel_rfl); (focus (simp [go_sem, d1, d2, c1, c2]; exact ⟨rfl, rfl⟩)); try dsimp only [thn, inBlk])
      | fail)
    simp [bodyQ, thn, inBlk, resA, resV, go_sem]
  have d2 : ¬ (16 : Int) < q.length := by omega
  by_cases c3 : 100 < a.length
  · have d3 : (100 : Int) < a.length := by omega
    (repeat' first
      | refine AWP.seq ?_
      | refine AWP.block ?_
      | (refine AWP.skip ?_; try dsimp only [thn, inBlk])
      | (refine AWP.exit ?_; try simp only [thn, inBlk, if_true, reduceIte, Nat.reduceEqDiff])
      | (refine AWP.ret ?_; try dsimp only [thn, inBlk])
      | (refine AWP.condT ?_ ?_; (focus (simp [go_sem, d1, d2, d3, c1, c2, c3]; done)))
      | (refine AWP.condF ?_ ?_; (focus (simp [go_sem, d1, d2, d3, c1, c2, c3]; done)))
      | (apply AWP.rE; (focus (simp [go_sem, d1, d2, d3, c1, c2, c3]; exact ⟨rfl, rfl⟩)); try dsimp only [thn, inBlk])
      | (apply AWP.dE hmix [.n 0 [3], .n 1 [11], .n 2 [3], .n 3 [13], .n 4 [12], .n 5 [14]]; (focus kernel_rfl); (focus (simp [go_sem, d1, d2, d3, c1, c2, c3]; exact ⟨rfl, rfl⟩)); try dsimp only [thn, inBlk])
      | fail)
    simp [bodyQ, thn, inBlk, resA, resV, go_sem]
  have d3 : ¬ (100 : Int) < a.length := by omega
  by_cases c4 : 100 < b.length
  · have d4 : (100 : Int) < b.length := by omega
    (repeat' first
      | refine AWP.seq ?_
      | refine AWP.block ?_
      | (refine AWP.skip ?_; try dsimp only [thn, inBlk])
      | (refine AWP.exit ?_; try simp only [thn, inBlk, if_true, reduceIte, Nat.reduceEqDiff])
      | (refine AWP.ret ?_; try dsimp only [thn, inBlk])
      | (refine AWP.condT ?_ ?_; (focus (simp [go_sem, d1, d2, d3, d4, c1, c2, c3, c4]; done)))
      | (refine AWP.condF ?_ ?_; (focus (simp [go_sem, d1, d2, d3, d4, c1, c2, c3, c4]; done)))
      | (apply AWP.rE; (focus (simp [go_sem, d1, d2, d3, d4, c1, c2, c3, c4]; exact ⟨rfl, rfl⟩)); try dsimp only [thn, inBlk])
      | (apply AWP.dE hmix [.n 0 [3], .n 1 [11], .n 2 [3], .n 3 [13], .n 4 [12], .n 5 [14]]; (focus kernel_rfl); (focus (simp [go_sem, d1, d2, d3, d4, c1, c2, c3, c4]; exact ⟨rfl, rfl⟩)); try dsimp only [thn, inBlk])
      | fail)
    simp [bodyQ, thn, inBlk, resA, resV, go_sem]
  have d4 : ¬ (100 : Int) < b.length := by omega
  refine AWP.callE (by simp [go_sem, d1, d2, d3, d4, c1, c2, c3, c4]; exact ⟨rfl, rfl, rfl, rfl, rfl⟩) (by kernel_rfl) ?_
  refine (check_calls (p := p) k1 (by omega)).mono ?_
  rintro r h3 ⟨rfl, k3⟩
  by_cases e1 : (parseR p).2 = 0
  rotate_left
  · have e1' : (((parseR p).2 : Int) != 0) = true := by simp [e1]
    refine awpL_restE (by simp [go_sem, e1']; exact ⟨rfl, rfl⟩) ?_; try dsimp only [thn, inBlk]
    (repeat' first
      | refine AWP.seq ?_
      | refine AWP.block ?_
      | (refine AWP.skip ?_; try dsimp only [thn, inBlk])
      | (refine AWP.exit ?_; try simp only [thn, inBlk, if_true, reduceIte, Nat.reduceEqDiff])
      | (refine AWP.ret ?_; try dsimp only [thn, inBlk])
      | (refine AWP.condT ?_ ?_; (focus (simp [go_sem]; done)))
      | (refine AWP.condF ?_ ?_; (focus (simp [go_sem]; done)))
      | (apply AWP.rE; (focus (simp [go_sem]; exact ⟨rfl, rfl⟩)); try dsimp only [thn, inBlk])
      | (apply AWP.dE hmix [.n 0 [3], .n 1 [11], .n 2 [3], .n 3 [13], .n 4 [12], .n 5 [14]]; (focus kernel_rfl); (focus (simp [go_sem]; exact ⟨rfl, rfl⟩)); try dsimp only [thn, inBlk])
      | fail)
    simp [bodyQ, thn, inBlk, resA, resV, go_sem]
  rw [e1]
  refine awpL_toCall (by simp [go_sem]; exact ⟨rfl, rfl, rfl, rfl, rfl⟩) (by kernel_rfl) ?_
  refine (check_calls (p := q) k3 (by omega)).mono ?_
  rintro r h4 ⟨rfl, k4⟩
  by_cases e2 : (parseR q).2 = 0
  rotate_left
  · have e2' : (((parseR q).2 : Int) != 0) = true := by simp [e2]
    refine awpL_restE (by simp [go_sem, e2']; exact ⟨rfl, rfl⟩) ?_; try dsimp only [thn, inBlk]
    (repeat' first
      | refine AWP.seq ?_
      | refine AWP.block ?_
      | (refine AWP.skip ?_; try dsimp only [thn, inBlk])
      | (refine AWP.exit ?_; try simp only [thn, inBlk, if_true, reduceIte, Nat.reduceEqDiff])
      | (refine AWP.ret ?_; try dsimp only [thn, inBlk])
      | (refine AWP.condT ?_ ?_; (focus (simp [go_sem]; done)))
      | (refine AWP.condF ?_ ?_; (focus (simp [go_sem]; done)))
      | (apply AWP.rE; (focus (simp [go_sem]; exact ⟨rfl, rfl⟩)); try dsimp only [thn, inBlk])
      | (apply AWP.dE hmix [.n 0 [3], .n 1 [11], .n 2 [3], .n 3 [13], .n 4 [12], .n 5 [14]]; (focus kernel_rfl); (focus (simp [go_sem]; exact ⟨rfl, rfl⟩)); try dsimp only [thn, inBlk])
      | fail)
    simp [bodyQ, thn, inBlk, resA, resV, go_sem]
  rw [e2]
  refine awpL_restE (by simp [go_sem]; exact ⟨rfl, rfl⟩) ?_; try dsimp only [thn, inBlk]
  (repeat' first
    | refine AWP.seq ?_
    | refine AWP.block ?_
    | (refine AWP.skip ?_; try dsimp only [thn, inBlk])
    | (refine AWP.exit ?_; try simp only [thn, inBlk, if_true, reduceIte, Nat.reduceEqDiff])
    | (refine AWP.ret ?_; try dsimp only [thn, inBlk])
    | (refine AWP.condT ?_ ?_; (focus (simp [go_sem]; done)))
    | (refine AWP.condF ?_ ?_; (focus (simp [go_sem]; done)))
    | (apply AWP.rE; (focus (simp [go_sem]; exact ⟨rfl, rfl⟩)); try dsimp only [thn, inBlk])
    | (apply AWP.dE hmix [.n 0 [3], .n 1 [11], .n 2 [3], .n 3 [13], .n 4 [12], .n 5 [14]]; (focus kernel_rfl); (focus (simp [go_sem]; exact ⟨rfl, rfl⟩)); try dsimp only [thn, inBlk])
    | fail)
  refine AWP.callE (by simp [go_sem]; exact ⟨rfl, rfl, rfl, rfl, rfl⟩) (by kernel_rfl) ?_
  refine (match_calls (p := p) (t := a) k4 (by omega) (by omega)).mono ?_
  rintro r h5 ⟨rfl, k5⟩
  cases m1 : matchR p a
  · refine awpL_restE (by simp [go_sem]; exact ⟨rfl, rfl⟩) ?_; try dsimp only [thn, inBlk]
    (repeat' first
      | refine AWP.seq ?_
      | refine AWP.block ?_
      | (refine AWP.skip ?_; try dsimp only [thn, inBlk])
      | (refine AWP.exit ?_; try simp only [thn, inBlk, if_true, reduceIte, Nat.reduceEqDiff])
      | (refine AWP.ret ?_; try dsimp only [thn, inBlk])
      | (refine AWP.condT ?_ ?_; (focus (simp [go_sem]; done)))
      | (refine AWP.condF ?_ ?_; (focus (simp [go_sem]; done)))
      | (apply AWP.rE; (focus (simp [go_sem]; exact ⟨rfl, rfl⟩)); try dsimp only [thn, inBlk])
      | (apply AWP.dE hmix [.n 0 [3], .n 1 [11], .n 2 [3], .n 3 [13], .n 4 [12], .n 5 [14]]; (focus kernel_rfl); (focus (simp [go_sem]; exact ⟨rfl, rfl⟩)); try dsimp only [thn, inBlk])
      | fail)
    simp [bodyQ, thn, inBlk, resA, resV, go_sem]
  refine awpL_toCall (by simp [go_sem]; exact ⟨rfl, rfl, rfl, rfl, rfl⟩) (by kernel_rfl) ?_
  refine (match_calls (p := q) (t := b) k5 (by omega) (by omega)).mono ?_
  rintro r h6 ⟨rfl, k6⟩
  cases m2 : matchR q b
  · refine awpL_restE (by simp [go_sem]; exact ⟨rfl, rfl⟩) ?_; try dsimp only [thn, inBlk]
    (repeat' first
      | refine AWP.seq ?_
      | refine AWP.block ?_
      | (refine AWP.skip ?_; try dsimp only [thn, inBlk])
      | (refine AWP.exit ?_; try simp only [thn, inBlk, if_true, reduceIte, Nat.reduceEqDiff])
      | (refine AWP.ret ?_; try dsimp only [thn, inBlk])
      | (refine AWP.condT ?_ ?_; (focus (simp [go_sem]; done)))
      | (refine AWP.condF ?_ ?_; (focus (simp [go_sem]; done)))
      | (apply AWP.rE; (focus (simp [go_sem]; exact ⟨rfl, rfl⟩)); try dsimp only [thn, inBlk])
      | (apply AWP.dE hmix [.n 0 [3], .n 1 [11], .n 2 [3], .n 3 [13], .n 4 [12], .n 5 [14]]; (focus kernel_rfl); (focus (simp [go_sem]; exact ⟨rfl, rfl⟩)); try dsimp only [thn, inBlk])
      | fail)
    simp [bodyQ, thn, inBlk, resA, resV, go_sem]
  have L := law_parts (by omega) (by omega) e1 e2 m1 m2
  have g1 : p.length + q.length ≤ 9223372036854775807 := by omega
  have g2 : a.length + b.length ≤ 9223372036854775807 := by omega
  refine awpL_toCall (by simp [go_sem, g1, g2]; exact ⟨rfl, rfl, rfl, rfl, rfl⟩) (by kernel_rfl) ?_
  refine (match_calls (p := p ++ q) (t := a ++ b) k6 (by simp; omega) (by simp; omega)).mono ?_
  rintro r h7 ⟨rfl, k7⟩
  rw [L]
  refine awpL_restE (by simp [go_sem]; exact ⟨rfl, rfl⟩) ?_; try dsimp only [thn, inBlk]
  (repeat' first
    | refine AWP.seq ?_
    | refine AWP.block ?_
    | (refine AWP.skip ?_; try dsimp only [thn, inBlk])
    | (refine AWP.exit ?_; try simp only [thn, inBlk, if_true, reduceIte, Nat.reduceEqDiff])
    | (refine AWP.ret ?_; try dsimp only [thn, inBlk])
    | (refine AWP.condT ?_ ?_; (focus (simp [go_sem]; done)))
    | (refine AWP.condF ?_ ?_; (focus (simp [go_sem]; done)))
    | (apply AWP.rE; (focus (simp [go_sem]; exact ⟨rfl, rfl⟩)); try dsimp only [thn, inBlk])
    | (apply AWP.dE hmix [.n 0 [3], .n 1 [11], .n 2 [3], .n 3 [13], .n 4 [12], .n 5 [14]]; (focus kernel_rfl); (focus (simp [go_sem]; exact ⟨rfl, rfl⟩)); try dsimp only [thn, inBlk])
    | fail)
  simp [bodyQ, thn, inBlk, resA, resV, go_sem]

theorem flat_take {α : Type} {ks : List Bool} {j : Nat} (hj : j < ks.length) (f : Bool → List α) : (ks.take (j + 1)).flatMap f = (ks.take j).flatMap f ++ f ks[j] := by
  rw [List.take_succ_eq_append_getElem hj, List.flatMap_append]; simp

set_option maxHeartbeats 8000000 in
theorem runs_calls {h : AHeap} {v : Value} {ks : List Bool} {t : List UInt8} (hb : h.base = h.next) (hk : Sl 1 h v ks.length (ks.map Value.bool)) (hn : ks.length ≤ 9223372036854775807) (ht : t.length ≤ 140737488355328) :
    ACalls Try.prog 6 #[v, .string ⟨t.toArray⟩] h fun r _ => r = .bool true := by
  refine Own.of_wf fun k0 => ?_
  obtain ⟨va, vc, rfl⟩ := hk.val
  refine ACalls.of_awp (args := [.slice va ks.length vc, .string ⟨t.toArray⟩]) (n := 70) Try.func6 rfl rfl (by show 2 ≤ 70; omega) ?_
  (repeat' first
    | refine AWP.seq ?_
    | refine AWP.block ?_
    | (refine AWP.skip ?_; try dsimp only [thn, inBlk])
    | (refine AWP.exit ?_; try simp only [thn, inBlk, if_true, reduceIte, Nat.reduceEqDiff])
    | (refine AWP.ret ?_; try dsimp only [thn, inBlk])
    | (refine AWP.condT ?_ ?_; (focus (simp [go_sem]; done)))
    | (refine AWP.condF ?_ ?_; (focus (simp [go_sem]; done)))
    | (apply AWP.rE; (focus (simp [go_sem]; exact ⟨rfl, rfl⟩)); try dsimp only [thn, inBlk])
    | fail)
  refine AWP.callE (by simp [go_sem]; exact ⟨rfl, rfl, rfl, rfl, rfl⟩) (by kernel_rfl) ?_
  refine (speaks_calls k0).mono ?_
  rintro r h1 ⟨rfl, k1⟩
  by_cases c1 : 10 < ks.length
  · have d1 : (10 : Int) < ks.length := by omega
    refine awpL_restE (by simp [go_sem]; exact ⟨rfl, rfl⟩) ?_; try dsimp only [thn, inBlk]
    (repeat' first
      | refine AWP.seq ?_
      | refine AWP.block ?_
      | (refine AWP.skip ?_; try dsimp only [thn, inBlk])
      | (refine AWP.exit ?_; try simp only [thn, inBlk, if_true, reduceIte, Nat.reduceEqDiff])
      | (refine AWP.ret ?_; try dsimp only [thn, inBlk])
      | (refine AWP.condT ?_ ?_; (focus (simp [go_sem, d1, c1]; done)))
      | (refine AWP.condF ?_ ?_; (focus (simp [go_sem, d1, c1]; done)))
      | (apply AWP.rE; (focus (simp [go_sem, d1, c1]; exact ⟨rfl, rfl⟩)); try dsimp only [thn, inBlk])
      | fail)
    simp [bodyQ, thn, inBlk, resA, resV, go_sem]
  have d1 : ¬ (10 : Int) < ks.length := by omega
  by_cases c2 : 200 < t.length
  · have d2 : (200 : Int) < t.length := by omega
    refine awpL_restE (by simp [go_sem]; exact ⟨rfl, rfl⟩) ?_; try dsimp only [thn, inBlk]
    (repeat' first
      | refine AWP.seq ?_
      | refine AWP.block ?_
      | (refine AWP.skip ?_; try dsimp only [thn, inBlk])
      | (refine AWP.exit ?_; try simp only [thn, inBlk, if_true, reduceIte, Nat.reduceEqDiff])
      | (refine AWP.ret ?_; try dsimp only [thn, inBlk])
      | (refine AWP.condT ?_ ?_; (focus (simp [go_sem, d1, d2, c1, c2]; done)))
      | (refine AWP.condF ?_ ?_; (focus (simp [go_sem, d1, d2, c1, c2]; done)))
      | (apply AWP.rE; (focus (simp [go_sem, d1, d2, c1, c2]; exact ⟨rfl, rfl⟩)); try dsimp only [thn, inBlk])
      | fail)
    simp [bodyQ, thn, inBlk, resA, resV, go_sem]
  have d2 : ¬ (200 : Int) < t.length := by omega
  refine awpL_restE (by simp [go_sem]; exact ⟨rfl, rfl⟩) ?_; try dsimp only [thn, inBlk]
  (repeat' first
    | refine AWP.seq ?_
    | refine AWP.block ?_
    | (refine AWP.skip ?_; try dsimp only [thn, inBlk])
    | (refine AWP.exit ?_; try simp only [thn, inBlk, if_true, reduceIte, Nat.reduceEqDiff])
    | (refine AWP.ret ?_; try dsimp only [thn, inBlk])
    | (refine AWP.condT ?_ ?_; (focus (simp [go_sem, d1, d2, c1, c2]; done)))
    | (refine AWP.condF ?_ ?_; (focus (simp [go_sem, d1, d2, c1, c2]; done)))
    | (apply AWP.rE; (focus (simp [go_sem, d1, d2, c1, c2]; exact ⟨rfl, rfl⟩)); try dsimp only [thn, inBlk])
    | fail)
  refine AWP.loopR [1, 5, 6, 7, 8, 22, 23, 24] (fun m s' h' => ∃ (j : Nat), j ≤ ks.length ∧ m = ks.length - j ∧ s' = ⟨70, [(1, .string ⟨t.toArray⟩), (5, .string ⟨((ks.take j).flatMap one1).toArray⟩), (6, .string ⟨((ks.take j).flatMap thr).toArray⟩), (7, .int .i64 (lst (ks.take j))), (8, .bool (anyT (ks.take j))), (22, .slice va ks.length vc), (23, .int .i64 ks.length), (24, .int .i64 j)]⟩ ∧ h' = h1) ?_ ?_
  · exact ⟨_, 0, by omega, rfl, by simp [go_sem, lst, anyT], rfl⟩
  rintro m s' h' ⟨j, hj, rfl, rfl, rfl⟩
  by_cases hj2 : j < ks.length
  · have hj3 : (j : Int) < ks.length := by omega
    have wj : IntKind.i64.wrap ((j : Int) + 1) = ((j + 1 : Nat) : Int) := by rw [wI64 (by omega) (by omega)]; omega
    obtain ⟨bi, bo, bc, be, bz, bt, br, p0, q0, g3⟩ := (hk.of_old hb k1).at1 (P := Try.prog) (t := 30) Try.underlying30 tsz4 hj2 (x := .bool ks[j]) (by rw [List.getElem?_map, List.getElem?_eq_getElem hj2]; rfl) (kd := .i64)
    obtain ⟨l1, l2⟩ := len_thr (ks.take j)
    rw [List.length_take, Nat.min_eq_left hj] at l1 l2
    have f1 : ((ks.take j).flatMap one1).length + 1 ≤ 9223372036854775807 := by omega
    have f2 : ((ks.take j).flatMap thr).length + 1 ≤ 9223372036854775807 := by omega
    have f3 : ((ks.take j).flatMap thr).length + 3 ≤ 9223372036854775807 := by omega
    have s1 := flat_take hj2 one1
    have s2 := flat_take hj2 thr
    have ll : lst (ks.take j) ≤ j := by unfold lst; refine Nat.le_trans (List.length_filter_le _ _) (by simp; omega)
    have wl : IntKind.i64.wrap ((lst (ks.take j) : Int) + 1) = ((lst (ks.take j) + 1 : Nat) : Int) := by rw [wI64 (by omega) (by omega)]; omega
    generalize hX1 : (ks.take j).flatMap one1 = X1 at *
    generalize hX2 : (ks.take j).flatMap thr = X2 at *
    cases hv : ks[j] with
    | true =>
      rw [hv] at g3 s1 s2
      have s3 : lst (ks.take (j + 1)) = lst (ks.take j) := by rw [List.take_succ_eq_append_getElem hj2, hv]; simp [lst]
      have s4 : anyT (ks.take (j + 1)) = true := by rw [List.take_succ_eq_append_getElem hj2, hv]; simp [anyT]
      (repeat' first
        | refine AWP.seq ?_
        | refine AWP.block ?_
        | (refine AWP.skip ?_; try dsimp only [thn, inBlk])
        | (refine AWP.exit ?_; try simp only [thn, inBlk, if_true, reduceIte, Nat.reduceEqDiff])
        | (refine AWP.ret ?_; try dsimp only [thn, inBlk])
        | (refine AWP.condT ?_ ?_; (focus (simp [go_sem, hj3, wj, p0, q0, g3, f1, f2, f3]; done)))
        | (refine AWP.condF ?_ ?_; (focus (simp [go_sem, hj3, wj, p0, q0, g3, f1, f2, f3]; done)))
        | (apply AWP.rE; (focus (simp [go_sem, hj3, wj, p0, q0, g3, f1, f2, f3]; exact ⟨rfl, rfl⟩)); try dsimp only [thn, inBlk])
        | fail)
      exact ⟨ks.length - (j + 1), by omega, j + 1, by omega, rfl, by simp [go_sem, s1, s2, s3, s4, one1, thr], rfl⟩
    | false =>
      rw [hv] at g3 s1 s2
      have s3 : lst (ks.take (j + 1)) = lst (ks.take j) + 1 := by rw [List.take_succ_eq_append_getElem hj2, hv]; simp [lst]
      have s4 : anyT (ks.take (j + 1)) = anyT (ks.take j) := by rw [List.take_succ_eq_append_getElem hj2, hv]; simp [anyT]
      (repeat' first
        | refine AWP.seq ?_
        | refine AWP.block ?_
        | (refine AWP.skip ?_; try dsimp only [thn, inBlk])
        | (refine AWP.exit ?_; try simp only [thn, inBlk, if_true, reduceIte, Nat.reduceEqDiff])
        | (refine AWP.ret ?_; try dsimp only [thn, inBlk])
        | (refine AWP.condT ?_ ?_; (focus (simp [go_sem, hj3, wj, p0, q0, g3, f1, f2, f3, wl]; done)))
        | (refine AWP.condF ?_ ?_; (focus (simp [go_sem, hj3, wj, p0, q0, g3, f1, f2, f3, wl]; done)))
        | (apply AWP.rE; (focus (simp [go_sem, hj3, wj, p0, q0, g3, f1, f2, f3, wl]; exact ⟨rfl, rfl⟩)); try dsimp only [thn, inBlk])
        | fail)
      exact ⟨ks.length - (j + 1), by omega, j + 1, by omega, rfl, by simp [go_sem, s1, s2, s3, s4, one1, thr], rfl⟩
  have hj3 : ¬ (j : Int) < ks.length := by omega
  obtain rfl : j = ks.length := by omega
  rw [List.take_length]
  obtain ⟨L1, L2, L3⟩ := law_runs (ks := ks) (by omega) t
  obtain ⟨l1, l2⟩ := len_thr ks
  generalize hX1 : ks.flatMap one1 = X1 at *
  generalize hX2 : ks.flatMap thr = X2 at *
  (repeat' first
    | refine AWP.seq ?_
    | refine AWP.block ?_
    | (refine AWP.skip ?_; try dsimp only [thn, inBlk])
    | (refine AWP.exit ?_; try simp only [thn, inBlk, if_true, reduceIte, Nat.reduceEqDiff])
    | (refine AWP.ret ?_; try dsimp only [thn, inBlk])
    | (refine AWP.condT ?_ ?_; (focus (simp [go_sem, hj3]; done)))
    | (refine AWP.condF ?_ ?_; (focus (simp [go_sem, hj3]; done)))
    | (apply AWP.rE; (focus (simp [go_sem, hj3]; exact ⟨rfl, rfl⟩)); try dsimp only [thn, inBlk])
    | fail)
  refine AWP.cutT [1, 5, 6, 11] (fun s' h'' => s' = ⟨70, [(1, .string ⟨t.toArray⟩), (5, .string ⟨X1.toArray⟩), (6, .string ⟨X2.toArray⟩), (11, .bool (want ks t))]⟩ ∧ h'' = h') ?_ ?_
  · by_cases w1 : t.length = lst ks
    · have w1' : ((t.length : Int) == lst ks) = true := by simp [w1]
      have ew : want ks t = true := by simp [want, w1]
      (repeat' first
        | refine AWP.seq ?_
        | refine AWP.block ?_
        | (refine AWP.skip ?_; try dsimp only [thn, inBlk])
        | (refine AWP.exit ?_; try simp only [thn, inBlk, if_true, reduceIte, Nat.reduceEqDiff])
        | (refine AWP.ret ?_; try dsimp only [thn, inBlk])
        | (refine AWP.condT ?_ ?_; (focus (simp [go_sem, w1']; done)))
        | (refine AWP.condF ?_ ?_; (focus (simp [go_sem, w1']; done)))
        | (apply AWP.rE; (focus (simp [go_sem, w1']; exact ⟨rfl, rfl⟩)); try dsimp only [thn, inBlk])
        | fail)
      exact ⟨by simp [go_sem, ew], rfl⟩
    have w1' : ((t.length : Int) == lst ks) = false := by simp; omega
    cases w2 : anyT ks with
    | false =>
      have ew : want ks t = false := by simp [want, w1, w2]
      (repeat' first
        | refine AWP.seq ?_
        | refine AWP.block ?_
        | (refine AWP.skip ?_; try dsimp only [thn, inBlk])
        | (refine AWP.exit ?_; try simp only [thn, inBlk, if_true, reduceIte, Nat.reduceEqDiff])
        | (refine AWP.ret ?_; try dsimp only [thn, inBlk])
        | (refine AWP.condT ?_ ?_; (focus (simp [go_sem, w1', w2]; done)))
        | (refine AWP.condF ?_ ?_; (focus (simp [go_sem, w1', w2]; done)))
        | (apply AWP.rE; (focus (simp [go_sem, w1', w2]; exact ⟨rfl, rfl⟩)); try dsimp only [thn, inBlk])
        | fail)
      exact ⟨by simp [go_sem, ew], rfl⟩
    | true =>
      by_cases w3 : lst ks < t.length
      · have ew : want ks t = true := by simp [want, w2, w3]
        have w4 : (lst ks : Int) < t.length := by omega
        (repeat' first
          | refine AWP.seq ?_
          | refine AWP.block ?_
          | (refine AWP.skip ?_; try dsimp only [thn, inBlk])
          | (refine AWP.exit ?_; try simp only [thn, inBlk, if_true, reduceIte, Nat.reduceEqDiff])
          | (refine AWP.ret ?_; try dsimp only [thn, inBlk])
          | (refine AWP.condT ?_ ?_; (focus (simp [go_sem, w1', w2, w3, w4]; done)))
          | (refine AWP.condF ?_ ?_; (focus (simp [go_sem, w1', w2, w3, w4]; done)))
          | (apply AWP.rE; (focus (simp [go_sem, w1', w2, w3, w4]; exact ⟨rfl, rfl⟩)); try dsimp only [thn, inBlk])
          | fail)
        exact ⟨by simp [go_sem, ew], rfl⟩
      · have ew : want ks t = false := by simp [want, w1, w2, w3]
        have w4 : ¬ (lst ks : Int) < t.length := by omega
        (repeat' first
          | refine AWP.seq ?_
          | refine AWP.block ?_
          | (refine AWP.skip ?_; try dsimp only [thn, inBlk])
          | (refine AWP.exit ?_; try simp only [thn, inBlk, if_true, reduceIte, Nat.reduceEqDiff])
          | (refine AWP.ret ?_; try dsimp only [thn, inBlk])
          | (refine AWP.condT ?_ ?_; (focus (simp [go_sem, w1', w2, w3, w4]; done)))
          | (refine AWP.condF ?_ ?_; (focus (simp [go_sem, w1', w2, w3, w4]; done)))
          | (apply AWP.rE; (focus (simp [go_sem, w1', w2, w3, w4]; exact ⟨rfl, rfl⟩)); try dsimp only [thn, inBlk])
          | fail)
        exact ⟨by simp [go_sem, ew], rfl⟩
  rintro s' h'' ⟨rfl, rfl⟩
  (repeat' first
    | refine AWP.seq ?_
    | refine AWP.block ?_
    | (refine AWP.skip ?_; try dsimp only [thn, inBlk])
    | (refine AWP.exit ?_; try simp only [thn, inBlk, if_true, reduceIte, Nat.reduceEqDiff])
    | (refine AWP.ret ?_; try dsimp only [thn, inBlk])
    | (refine AWP.condT ?_ ?_; (focus (simp [go_sem]; done)))
    | (refine AWP.condF ?_ ?_; (focus (simp [go_sem]; done)))
    | (apply AWP.rE; (focus (simp [go_sem]; exact ⟨rfl, rfl⟩)); try dsimp only [thn, inBlk])
    | fail)
  refine AWP.callE (by simp [go_sem]; exact ⟨rfl, rfl, rfl, rfl, rfl⟩) (by kernel_rfl) ?_
  refine (match_calls (p := X1) (t := t) k1 (by omega) (by omega)).mono ?_
  rintro r h5 ⟨rfl, k5⟩
  rw [L1]
  refine awpL_toCall (by simp [go_sem]; exact ⟨rfl, rfl, rfl, rfl, rfl⟩) (by kernel_rfl) ?_
  refine (match_calls (p := X2) (t := t) k5 (by omega) (by omega)).mono ?_
  rintro r h6 ⟨rfl, k6⟩
  rw [L2]
  refine awpL_toCall (by simp [go_sem]; exact ⟨rfl, rfl, rfl, rfl, rfl⟩) (by kernel_rfl) ?_
  refine (check_calls (p := X2) k6 (by omega)).mono ?_
  rintro r h7 ⟨rfl, k7⟩
  rw [L3]
  refine awpL_restE (by simp [go_sem]; exact ⟨rfl, rfl⟩) ?_; try dsimp only [thn, inBlk]
  (repeat' first
    | refine AWP.seq ?_
    | refine AWP.block ?_
    | (refine AWP.skip ?_; try dsimp only [thn, inBlk])
    | (refine AWP.exit ?_; try simp only [thn, inBlk, if_true, reduceIte, Nat.reduceEqDiff])
    | (refine AWP.ret ?_; try dsimp only [thn, inBlk])
    | (refine AWP.condT ?_ ?_; (focus (simp [go_sem]; done)))
    | (refine AWP.condF ?_ ?_; (focus (simp [go_sem]; done)))
    | (apply AWP.rE; (focus (simp [go_sem]; exact ⟨rfl, rfl⟩)); try dsimp only [thn, inBlk])
    | fail)
  simp [bodyQ, thn, inBlk, resA, resV, go_sem]
end L15
