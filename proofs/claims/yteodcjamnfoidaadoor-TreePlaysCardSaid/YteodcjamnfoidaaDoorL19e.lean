import Derived.Test.YteodcjamnfoidaaDoorL19d
open Go Ab Go.Proofs
namespace L19
set_option autoImplicit false
set_option linter.unusedSimpArgs false
set_option linter.unusedVariables false

abbrev FN : Value := .func (.func 42) #[] #[]
theorem fn_calls {O : Old} {h : AHeap} {R : List Chunk} {l : List UInt8} (k : Own O h R) (hm : l.length ≤ 1000000) :
    ACalls Tryd.prog 42 #[tx l] h fun r h' => r = .bool (!(nm l)) ∧ Own O h' R := by
  refine ACalls.of_awp (args := [tx l]) (n := 6) Tryd.func42 rfl rfl (by show 1 ≤ 6; omega) ?_
  (repeat' first
    | refine AWP.seq ?_
    | refine AWP.block ?_
    | (refine AWP.skip ?_; try dsimp only [thn, inBlk])
    | (refine AWP.exit ?_; try simp only [thn, inBlk, if_true, reduceIte, Nat.reduceEqDiff])
    | (refine AWP.ret ?_; try dsimp only [thn, inBlk])
    | (refine AWP.condT ?_ ?_; (focus (simp [go_sem]; done)))
    | (refine AWP.condF ?_ ?_; (focus (simp [go_sem]; done)))
    | (apply AWP.rE; (focus (simp [go_sem]; exact ⟨rfl, rfl⟩)); try dsimp only [thn, inBlk])
    | fail)
  refine AWP.callE (by simp [go_sem]; exact ⟨rfl, rfl, rfl, rfl, rfl⟩) (by kernel_rfl) ?_
  refine (named_calls k hm).mono ?_
  rintro r h' ⟨rfl, k2⟩
  refine awpL_restE (by simp [go_sem]; exact ⟨rfl, rfl⟩) ?_; try dsimp only [thn, inBlk]
  (repeat' first
    | refine AWP.seq ?_
    | refine AWP.block ?_
    | (refine AWP.skip ?_; try dsimp only [thn, inBlk])
    | (refine AWP.exit ?_; try simp only [thn, inBlk, if_true, reduceIte, Nat.reduceEqDiff])
    | (refine AWP.ret ?_; try dsimp only [thn, inBlk])
    | (refine AWP.condT ?_ ?_; (focus (simp [go_sem]; done)))
    | (refine AWP.condF ?_ ?_; (focus (simp [go_sem]; done)))
    | (apply AWP.rE; (focus (simp [go_sem]; exact ⟨rfl, rfl⟩)); try dsimp only [thn, inBlk])
    | fail)
  simp [bodyQ, thn, inBlk, resA, resV, go_sem]
  exact k2
set_option maxHeartbeats 4000000 in
theorem indexfunc_calls {O : Old} {h : AHeap} {R : List Chunk} {v : Value} {ls : List (List UInt8)} (k : Own O h (txs v ls :: R)) (hl : ls.length ≤ 1000000) (hm : ∀ l ∈ ls, l.length ≤ 1000000) :
    ACalls Tryd.prog 64 #[v, FN] h fun r h' => ∃ z : Int, r = .int .i64 z ∧ decide (0 ≤ z) = !(ls.all nm) ∧ Own O h' (txs v ls :: R) := by
  obtain ⟨va, vc, rfl⟩ := k.os_val
  refine ACalls.of_awp (args := [.slice va ls.length vc, FN]) (n := 19) Tryd.func64 rfl rfl (by show 2 ≤ 19; omega) ?_
  (repeat' first
    | refine AWP.seq ?_
    | refine AWP.block ?_
    | (refine AWP.skip ?_; try dsimp only [thn, inBlk])
    | (refine AWP.exit ?_; try simp only [thn, inBlk, if_true, reduceIte, Nat.reduceEqDiff])
    | (refine AWP.ret ?_; try dsimp only [thn, inBlk])
    | (refine AWP.condT ?_ ?_; (focus (simp [go_sem]; done)))
    | (refine AWP.condF ?_ ?_; (focus (simp [go_sem]; done)))
    | (apply AWP.rE; (focus (simp [go_sem]; exact ⟨rfl, rfl⟩)); try dsimp only [thn, inBlk])
    | fail)
  refine AWP.loopR [0, 1, 7, 8] (fun m s h' => ∃ j : Nat, j ≤ ls.length ∧ m = ls.length - j ∧ s = ⟨19, [(0, .slice va ls.length vc), (1, FN), (7, .int .i64 ls.length), (8, .int .i64 j)]⟩ ∧ (ls.all nm = (ls.drop j).all nm) ∧ Own O h' (txs (.slice va ls.length vc) ls :: R)) ?_ ?_
  · exact ⟨_, 0, by omega, rfl, rfl, rfl, k⟩
  rintro m s h1 ⟨j, hj, rfl, rfl, hI, k2⟩
  by_cases hjm : j < ls.length
  rotate_left
  · have hjm' : ¬ (j : Int) < ls.length := by omega
    have ha : ls.all nm = true := by rw [hI, List.drop_eq_nil_iff.2 (by omega)]; rfl
    (repeat' first
      | refine AWP.seq ?_
      | refine AWP.block ?_
      | (refine AWP.skip ?_; try dsimp only [thn, inBlk])
      | (refine AWP.exit ?_; try simp only [thn, inBlk, if_true, reduceIte, Nat.reduceEqDiff])
      | (refine AWP.ret ?_; try dsimp only [thn, inBlk])
      | (refine AWP.condT ?_ ?_; (focus (simp [go_sem, hjm']; done)))
      | (refine AWP.condF ?_ ?_; (focus (simp [go_sem, hjm']; done)))
      | (apply AWP.rE; (focus (simp [go_sem, hjm']; exact ⟨rfl, rfl⟩)); try dsimp only [thn, inBlk])
      | fail)
    simp [bodyQ, thn, inBlk, resA, resV, go_sem]
    exact ⟨by simpa using ha, k2⟩
  have hjm' : (j : Int) < ls.length := by omega
  have hg : (ls.map T)[j]? = some (tx ls[j]) := by simp [hjm, T]
  obtain ⟨bi, bo, c, e', sz, ti, ro, q1, q2, q3⟩ := k2.os_sl.at1 (P := Tryd.prog) (t := 69) Tryd.underlying69 tsz9 hjm hg (kd := .i64)
  have hdr : ls.drop j = ls[j] :: ls.drop (j + 1) := List.drop_eq_getElem_cons hjm
  have hml := hm ls[j] (List.getElem_mem _)
  generalize ls[j] = x at q3 hdr hml
  rw [hdr, List.all_cons] at hI
  have w1 : IntKind.i64.wrap ((j : Int) + 1) = ((j + 1 : Nat) : Int) := by rw [wI64 (by omega) (by omega)]; omega
  (repeat' first
    | refine AWP.seq ?_
    | refine AWP.block ?_
    | (refine AWP.skip ?_; try dsimp only [thn, inBlk])
    | (refine AWP.exit ?_; try simp only [thn, inBlk, if_true, reduceIte, Nat.reduceEqDiff])
    | (refine AWP.ret ?_; try dsimp only [thn, inBlk])
    | (refine AWP.condT ?_ ?_; (focus (simp [go_sem, hjm']; done)))
    | (refine AWP.condF ?_ ?_; (focus (simp [go_sem, hjm']; done)))
    | (apply AWP.rE; (focus (simp [go_sem, hjm']; exact ⟨rfl, rfl⟩)); try dsimp only [thn, inBlk])
    | fail)
  refine AWP.callE (by simp [go_sem, q1, q2, q3]; exact ⟨rfl, rfl, rfl, rfl, rfl⟩) (by kernel_rfl) ?_
  refine (fn_calls k2 hml).mono ?_
  rintro r h2 ⟨rfl, k3⟩
  cases hx : nm x
  · refine awpL_restE (by simp [go_sem]; exact ⟨rfl, rfl⟩) ?_; try dsimp only [thn, inBlk]
    rw [hx, Bool.false_and] at hI
    (repeat' first
      | refine AWP.seq ?_
      | refine AWP.block ?_
      | (refine AWP.skip ?_; try dsimp only [thn, inBlk])
      | (refine AWP.exit ?_; try simp only [thn, inBlk, if_true, reduceIte, Nat.reduceEqDiff])
      | (refine AWP.ret ?_; try dsimp only [thn, inBlk])
      | (refine AWP.condT ?_ ?_; (focus (simp [go_sem]; done)))
      | (refine AWP.condF ?_ ?_; (focus (simp [go_sem]; done)))
      | (apply AWP.rE; (focus (simp [go_sem]; exact ⟨rfl, rfl⟩)); try dsimp only [thn, inBlk])
      | fail)
    simp [bodyQ, thn, inBlk, resA, resV, go_sem]
    exact ⟨by simpa using hI, k3⟩
  · refine awpL_restE (by simp [go_sem]; exact ⟨rfl, rfl⟩) ?_; try dsimp only [thn, inBlk]
    rw [hx, Bool.true_and] at hI
    (repeat' first
      | refine AWP.seq ?_
      | refine AWP.block ?_
      | (refine AWP.skip ?_; try dsimp only [thn, inBlk])
      | (refine AWP.exit ?_; try simp only [thn, inBlk, if_true, reduceIte, Nat.reduceEqDiff])
      | (refine AWP.ret ?_; try dsimp only [thn, inBlk])
      | (refine AWP.condT ?_ ?_; (focus (simp [go_sem, w1]; done)))
      | (refine AWP.condF ?_ ?_; (focus (simp [go_sem, w1]; done)))
      | (apply AWP.rE; (focus (simp [go_sem, w1]; exact ⟨rfl, rfl⟩)); try dsimp only [thn, inBlk])
      | fail)
    exact ⟨ls.length - (j + 1), by omega, j + 1, by omega, rfl, by simp [go_sem], hI, k3⟩
theorem containsfunc_calls {O : Old} {h : AHeap} {R : List Chunk} {v : Value} {ls : List (List UInt8)} (k : Own O h (txs v ls :: R)) (hl : ls.length ≤ 1000000) (hm : ∀ l ∈ ls, l.length ≤ 1000000) :
    ACalls Tryd.prog 44 #[v, FN] h fun r h' => r = .bool (!(ls.all nm)) ∧ Own O h' (txs v ls :: R) := by
  obtain ⟨va, vc, rfl⟩ := k.os_val
  refine ACalls.of_awp (args := [.slice va ls.length vc, FN]) (n := 9) Tryd.func44 rfl rfl (by show 2 ≤ 9; omega) ?_
  (repeat' first
    | refine AWP.seq ?_
    | refine AWP.block ?_
    | (refine AWP.skip ?_; try dsimp only [thn, inBlk])
    | (refine AWP.exit ?_; try simp only [thn, inBlk, if_true, reduceIte, Nat.reduceEqDiff])
    | (refine AWP.ret ?_; try dsimp only [thn, inBlk])
    | (refine AWP.condT ?_ ?_; (focus (simp [go_sem]; done)))
    | (refine AWP.condF ?_ ?_; (focus (simp [go_sem]; done)))
    | (apply AWP.rE; (focus (simp [go_sem]; exact ⟨rfl, rfl⟩)); try dsimp only [thn, inBlk])
    | fail)
  refine AWP.callE (by simp [go_sem]; exact ⟨rfl, rfl, rfl, rfl, rfl⟩) (by kernel_rfl) ?_
  refine (indexfunc_calls k hl hm).mono ?_
  rintro r h2 ⟨z, rfl, hz, k3⟩
  rw [← hz]
  refine awpL_restE (by simp [go_sem]; exact ⟨rfl, rfl⟩) ?_; try dsimp only [thn, inBlk]
  (repeat' first
    | refine AWP.seq ?_
    | refine AWP.block ?_
    | (refine AWP.skip ?_; try dsimp only [thn, inBlk])
    | (refine AWP.exit ?_; try simp only [thn, inBlk, if_true, reduceIte, Nat.reduceEqDiff])
    | (refine AWP.ret ?_; try dsimp only [thn, inBlk])
    | (refine AWP.condT ?_ ?_; (focus (simp [go_sem]; done)))
    | (refine AWP.condF ?_ ?_; (focus (simp [go_sem]; done)))
    | (apply AWP.rE; (focus (simp [go_sem]; exact ⟨rfl, rfl⟩)); try dsimp only [thn, inBlk])
    | fail)
  simp [bodyQ, thn, inBlk, resA, resV, go_sem]
  exact k3

/-- Is a text a path? -/
def pathB (l : List UInt8) : Bool := l == [47] || ((cut47 l).2 && decide ((splitB (cut47 l).1).length ≤ 6) && (splitB (cut47 l).1).all nm)
theorem cut47_len (l : List UInt8) : (cut47 l).1.length ≤ l.length := by
  rcases l with _ | ⟨c, l⟩
  · exact Nat.le_refl _
  · rw [cut47]; split <;> simp
theorem splitB_short : ∀ (l : List UInt8), ∀ x ∈ splitB l, x.length ≤ l.length
  | [], x, h => by simp [splitB] at h; rw [h]; exact Nat.le_refl _
  | c :: l, x, h => by
    have ih := splitB_short l
    rw [splitB] at h
    split at h
    · rcases List.mem_cons.1 h with rfl | h
      · simp
      · have := ih x h; simp; omega
    · match hs : splitB l with
      | [] => rw [hs] at h; simp at h; rw [h]; simp
      | y :: r =>
        rw [hs] at h ih
        rcases List.mem_cons.1 h with rfl | h
        · have := ih y (by simp); simp; omega
        · have := ih x (by simp [h]); simp; omega
set_option maxHeartbeats 4000000 in
theorem path_calls {O : Old} {h : AHeap} {R : List Chunk} {l : List UInt8} (k : Own O h R) (hm : l.length ≤ 900000) :
    ACalls Tryd.prog 18 #[tx l] h fun r h' => r = .bool (pathB l) ∧ Own O h' R := by
  refine ACalls.of_awp (args := [tx l]) (n := 30) Tryd.func18 rfl rfl (by show 1 ≤ 30; omega) ?_
  have hcl := cut47_len l
  (repeat' first
    | refine AWP.seq ?_
    | refine AWP.block ?_
    | (refine AWP.skip ?_; try dsimp only [thn, inBlk])
    | (refine AWP.exit ?_; try simp only [thn, inBlk, if_true, reduceIte, Nat.reduceEqDiff])
    | (refine AWP.ret ?_; try dsimp only [thn, inBlk])
    | (refine AWP.condT ?_ ?_; (focus (simp [go_sem]; done)))
    | (refine AWP.condF ?_ ?_; (focus (simp [go_sem]; done)))
    | (apply AWP.rE; (focus (simp [go_sem]; exact ⟨rfl, rfl⟩)); try dsimp only [thn, inBlk])
    | fail)
  refine AWP.callE (by simp [go_sem]; exact ⟨rfl, rfl, rfl, rfl, rfl⟩) (by kernel_rfl) ?_
  refine (cutprefix_calls (l := l)).mono ?_
  rintro r h1 ⟨rfl, rfl⟩
  obtain ⟨q, b, hq⟩ : ∃ q b, cut47 l = (q, b) := ⟨_, _, rfl⟩
  have hpb : pathB l = (l == [47] || (b && decide ((splitB q).length ≤ 6) && (splitB q).all nm)) := by simp only [pathB, hq]
  rw [hq] at hcl ⊢
  dsimp only at hcl
  refine awpL_restE (by simp [go_sem]; exact ⟨rfl, rfl⟩) ?_; try dsimp only [thn, inBlk]
  (repeat' first
    | refine AWP.seq ?_
    | refine AWP.block ?_
    | (refine AWP.skip ?_; try dsimp only [thn, inBlk])
    | (refine AWP.exit ?_; try simp only [thn, inBlk, if_true, reduceIte, Nat.reduceEqDiff])
    | (refine AWP.ret ?_; try dsimp only [thn, inBlk])
    | (refine AWP.condT ?_ ?_; (focus (simp [go_sem]; done)))
    | (refine AWP.condF ?_ ?_; (focus (simp [go_sem]; done)))
    | (apply AWP.rE; (focus (simp [go_sem]; exact ⟨rfl, rfl⟩)); try dsimp only [thn, inBlk])
    | fail)
  refine AWP.callE (by simp [go_sem]; exact ⟨rfl, rfl, rfl, rfl, rfl⟩) (by kernel_rfl) ?_
  refine (split_calls k (l := q) (by omega)).mono ?_
  rintro r h2 ⟨a, cap, rfl, k2⟩
  have hsl := splitB_length q
  have hcc : q.count 47 ≤ q.length := List.count_le_length
  have hss := splitB_short q
  generalize splitB q = ls at k2 hpb hsl hss ⊢
  refine awpL_restE (by simp [go_sem]; exact ⟨rfl, rfl⟩) ?_; try dsimp only [thn, inBlk]
  by_cases h1 : l = [47]
  · have h1' : (l == [47]) = true := by simpa using h1
    rw [hpb, h1']
    (repeat' first
      | refine AWP.seq ?_
      | refine AWP.block ?_
      | (refine AWP.skip ?_; try dsimp only [thn, inBlk])
      | (refine AWP.exit ?_; try simp only [thn, inBlk, if_true, reduceIte, Nat.reduceEqDiff])
      | (refine AWP.ret ?_; try dsimp only [thn, inBlk])
      | (refine AWP.condT ?_ ?_; (focus (simp [go_sem, h1']; done)))
      | (refine AWP.condF ?_ ?_; (focus (simp [go_sem, h1']; done)))
      | (apply AWP.rE; (focus (simp [go_sem, h1']; exact ⟨rfl, rfl⟩)); try dsimp only [thn, inBlk])
      | fail)
    simp [bodyQ, thn, inBlk, resA, resV, go_sem]
    exact k2.tail
  have h1' : (l == [47]) = false := by simpa using h1
  rw [hpb, h1', Bool.false_or]
  cases b
  · (repeat' first
      | refine AWP.seq ?_
      | refine AWP.block ?_
      | (refine AWP.skip ?_; try dsimp only [thn, inBlk])
      | (refine AWP.exit ?_; try simp only [thn, inBlk, if_true, reduceIte, Nat.reduceEqDiff])
      | (refine AWP.ret ?_; try dsimp only [thn, inBlk])
      | (refine AWP.condT ?_ ?_; (focus (simp [go_sem, h1']; done)))
      | (refine AWP.condF ?_ ?_; (focus (simp [go_sem, h1']; done)))
      | (apply AWP.rE; (focus (simp [go_sem, h1']; exact ⟨rfl, rfl⟩)); try dsimp only [thn, inBlk])
      | fail)
    simp [bodyQ, thn, inBlk, resA, resV, go_sem]
    exact k2.tail
  by_cases h6 : ls.length ≤ 6
  rotate_left
  · have h6' : ¬ (ls.length : Int) ≤ 6 := by omega
    rw [decide_eq_false h6]
    (repeat' first
      | refine AWP.seq ?_
      | refine AWP.block ?_
      | (refine AWP.skip ?_; try dsimp only [thn, inBlk])
      | (refine AWP.exit ?_; try simp only [thn, inBlk, if_true, reduceIte, Nat.reduceEqDiff])
      | (refine AWP.ret ?_; try dsimp only [thn, inBlk])
      | (refine AWP.condT ?_ ?_; (focus (simp [go_sem, h1', h6']; done)))
      | (refine AWP.condF ?_ ?_; (focus (simp [go_sem, h1', h6']; done)))
      | (apply AWP.rE; (focus (simp [go_sem, h1', h6']; exact ⟨rfl, rfl⟩)); try dsimp only [thn, inBlk])
      | fail)
    simp [bodyQ, thn, inBlk, resA, resV, go_sem]
    exact k2.tail
  have h6' : (ls.length : Int) ≤ 6 := by omega
  rw [decide_eq_true h6]
  (repeat' first
    | refine AWP.seq ?_
    | refine AWP.block ?_
    | (refine AWP.skip ?_; try dsimp only [thn, inBlk])
    | (refine AWP.exit ?_; try simp only [thn, inBlk, if_true, reduceIte, Nat.reduceEqDiff])
    | (refine AWP.ret ?_; try dsimp only [thn, inBlk])
    | (refine AWP.condT ?_ ?_; (focus (simp [go_sem, h1', h6']; done)))
    | (refine AWP.condF ?_ ?_; (focus (simp [go_sem, h1', h6']; done)))
    | (apply AWP.rE; (focus (simp [go_sem, h1', h6']; exact ⟨rfl, rfl⟩)); try dsimp only [thn, inBlk])
    | fail)
  refine AWP.callE (by simp [go_sem, h1', h6']; exact ⟨rfl, rfl, rfl, rfl, rfl⟩) (by kernel_rfl) ?_
  refine (containsfunc_calls k2 (by omega) (fun x hx => by have := hss x hx; omega)).mono ?_
  rintro r h3 ⟨rfl, k3⟩
  refine awpL_restE (by simp [go_sem]; exact ⟨rfl, rfl⟩) ?_; try dsimp only [thn, inBlk]
  (repeat' first
    | refine AWP.seq ?_
    | refine AWP.block ?_
    | (refine AWP.skip ?_; try dsimp only [thn, inBlk])
    | (refine AWP.exit ?_; try simp only [thn, inBlk, if_true, reduceIte, Nat.reduceEqDiff])
    | (refine AWP.ret ?_; try dsimp only [thn, inBlk])
    | (refine AWP.condT ?_ ?_; (focus (simp [go_sem]; done)))
    | (refine AWP.condF ?_ ?_; (focus (simp [go_sem]; done)))
    | (apply AWP.rE; (focus (simp [go_sem]; exact ⟨rfl, rfl⟩)); try dsimp only [thn, inBlk])
    | fail)
  simp [bodyQ, thn, inBlk, resA, resV, go_sem]
  exact k3.tail
end L19
