import Derived.Test.YteodcjamnfoidaaDoorL19zl
open Go Ab Go.Proofs
namespace L19
set_option autoImplicit false
set_option linter.unusedSimpArgs false
set_option linter.unusedVariables false

theorem kids_take {xs : TL} {q : List UInt8} {j : Nat} {x : List UInt8 × Nd} (hj : xs[j]? = some x) : kids (xs.take (j + 1)) q = kids (xs.take j) q ++ (if kidP q x.1 = true then [base x.1] else []) := by
  rw [List.take_add_one, hj]
  simp only [kids, List.map_append, List.filter_append]
  congr 1
  by_cases h : kidP q x.1 = true <;> simp [h]
theorem base_top {p : List UInt8} (hpb : pathB p = true) (hp : par p = [47]) (h1 : p ≠ [47]) : base p = p.drop 1 := by
  have h0 := pathB_head hpb
  unfold base
  unfold par at hp
  have hpl : 0 < p.length := by rcases p with _ | ⟨c, p⟩; simp at h0; simp
  rcases lastN_spec p 47 p.length with ⟨a, b⟩ | ⟨a, b, c⟩
  · exact absurd h0 (b 0 hpl)
  · by_cases h : 1 < lastN p 47 p.length
    · rw [if_pos h] at hp
      have hl := congrArg List.length hp
      rw [List.length_take, Nat.min_eq_left (by omega)] at hl
      simp at hl
      rw [show lastN p 47 p.length = 2 by omega] at c
      exfalso
      rcases p with _ | ⟨x, _ | ⟨y, t⟩⟩
      · simp at h0
      · simp at c
      · simp at h0 c
        subst h0; subst c
        have : pathB (47 :: 47 :: t) = false := by
          simp [pathB, cut47, splitB, nm]
        rw [this] at hpb; cases hpb
    · rw [show lastN p 47 p.length = 1 by omega]
theorem base_sub {p : List UInt8} (h0 : p[0]? = some 47) (h1 : par p ≠ [47]) : (par p).length + 1 ≤ p.length ∧ base p = p.drop ((par p).length + 1) := by
  unfold base par at *
  by_cases h : 1 < lastN p 47 p.length
  · rw [if_pos h] at h1 ⊢
    have := lastN_le p 47 p.length
    rw [List.length_take, Nat.min_eq_left (by omega)]
    exact ⟨by omega, by rw [show lastN p 47 p.length - 1 + 1 = lastN p 47 p.length by omega]⟩
  · rw [if_neg h] at h1; exact absurd rfl h1
def Sd (S : List (List UInt8)) : Prop := S.Pairwise fun a b => ¬ b < a
theorem not_lt_trans {a b c : List UInt8} (h1 : ¬ b < a) (h2 : ¬ c < b) : ¬ c < a := by
  intro h
  rcases lt_trich b a with q | q | q
  · exact h1 q
  · subst q; exact h2 h
  · rcases lt_trich c b with r | r | r
    · exact h2 r
    · subst r; exact h1 h
    · exact List.lt_irrefl _ (List.lt_trans h (List.lt_trans q r))
theorem Sd.ins {A B : List (List UInt8)} {x : List UInt8} (h : Sd (A ++ B)) (hB : ∀ b ∈ B, x < b) (hA : ∀ a, A.getLast? = some a → ¬ x < a) : Sd (A ++ x :: B) := by
  unfold Sd at *
  rw [List.pairwise_append] at h ⊢
  have hx : ∀ a ∈ A, ¬ x < a := by
    rcases List.eq_nil_or_concat A with rfl | ⟨A', y, rfl⟩
    · simp
    rw [List.concat_eq_append] at *
    have hy := hA y (by simp)
    intro a ha
    rcases List.mem_append.1 ha with ha | ha
    · rw [List.pairwise_append] at h
      exact not_lt_trans (h.1.2.2 a ha y (by simp)) hy
    · rw [List.mem_singleton.1 ha]; exact hy
  refine ⟨h.1, ?_, fun a ha b hb => ?_⟩
  · rw [List.pairwise_cons]
    exact ⟨fun b hb => List.lt_asymm (hB b hb), h.2.1⟩
  · rcases List.mem_cons.1 hb with rfl | hb
    · exact hx a ha
    · exact h.2.2 a ha b hb
section
variable {O : Old} {h : AHeap} {R : List Chunk} {i : Nat} {xs : TL}
theorem lt_ptr {S : List (List UInt8)} {j : Nat} (hj : j < S.length) : (S.map Ab.T)[j]? = some (tx S[j]) := by simp [hj, Ab.T]
set_option maxHeartbeats 32000000 in
theorem rnames_calls {q : List UInt8} {v : Value} (hX : RX xs) (hP : ∀ x ∈ xs, pathB x.1 = true ∧ x.1.length ≤ 100000) (k : Own O h (cell i (rrow v) :: nds v xs :: R)) :
    ACalls Tryd.prog 48 #[ptr i, tx q] h fun r h' => ∃ a cap S, r = .slice a S.length cap ∧ S.Perm (kids xs q) ∧ Sd S ∧ Own O h' (txs (.slice a S.length cap) S :: cell i (rrow v) :: nds v xs :: R) := by
  refine ACalls.of_awp (args := [ptr i, tx q]) (n := 86) Tryd.func48 rfl rfl (by show 2 ≤ 86; omega) ?_
  have hln := hX.ln
  obtain ⟨va, vc, rfl⟩ := k.b1.grecs_val
  have k1 : Own O _ (txs (.slice (some ⟨h.next, 0, none⟩) 0 0) [] :: cell i (rrow (.slice va xs.length vc)) :: nds (.slice va xs.length vc) xs :: R) := (k.push (.row [] 9 1 true false)).row_any (n := 0) rfl
  (repeat' first
    | refine AWP.seq ?_
    | refine AWP.block ?_
    | (refine AWP.skip ?_; try dsimp only [thn, inBlk])
    | (refine AWP.exit ?_; try simp only [thn, inBlk, if_true, reduceIte, Nat.reduceEqDiff])
    | (refine AWP.ret ?_; try dsimp only [thn, inBlk])
    | (refine AWP.condT ?_ ?_; (focus (simp [go_sem]; done)))
    | (refine AWP.condF ?_ ?_; (focus (simp [go_sem]; done)))
    | (apply AWP.rE; (focus (simp [go_sem]; exact ⟨rfl, rfl⟩)); try dsimp only [thn, inBlk])
    | (apply AWP.dE hmix [.n 0 [9], .n 1 [52], .n 2 [53], .n 3 [5, 54], .n 4 [9, 54], .n 5 [55, 56, 54], .n 6 [57, 54], .n 7 [5, 54], .n 8 [9, 54], .n 9 [60, 54], .n 10 [59, 61, 54], .n 11 [62, 54], .n 12 [58, 63, 54], .n 13 [54, 64]]; (focus kernel_rfl); (focus (simp [go_sem]; exact ⟨rfl, rfl⟩)); try dsimp only [thn, inBlk])
    | fail)
  refine AWP.loopR [0, 1, 5, 6] (fun m s h' => ∃ (j : Nat) (a : Option Addr) (cap : Nat) (S : List (List UInt8)), j ≤ xs.length ∧ m = xs.length - j ∧ s = ⟨86, [(0, ptr i), (1, tx q), (5, .slice a S.length cap), (6, .int .i64 j)]⟩ ∧ S.Perm (kids (xs.take j) q) ∧ Sd S ∧
      Own O h' (txs (.slice a S.length cap) S :: cell i (rrow (.slice va xs.length vc)) :: nds (.slice va xs.length vc) xs :: R)) ?_ ?_
  · exact ⟨_, 0, some ⟨h.next, 0, none⟩, 0, [], by omega, rfl, by simp [go_sem], by simp [kids], List.Pairwise.nil, k1⟩
  rintro m s hB ⟨j, a, cap, S, hj, rfl, rfl, hS, hSd, kB⟩
  have ciB := kB.b1.obj
  have hSl : S.length ≤ j := by
    rw [hS.length_eq]
    simp only [kids, List.length_map]
    exact Nat.le_trans (List.length_filter_le _ _) (by rw [List.length_map, List.length_take]; omega)
  by_cases hjm : j < xs.length
  rotate_left
  · have hjm' : ¬ (j : Int) < xs.length := by omega
    obtain rfl : j = xs.length := by omega
    rw [List.take_length] at hS
    (repeat' first
      | refine AWP.seq ?_
      | refine AWP.block ?_
      | (refine AWP.skip ?_; try dsimp only [thn, inBlk])
      | (refine AWP.exit ?_; try simp only [thn, inBlk, if_true, reduceIte, Nat.reduceEqDiff])
      | (refine AWP.ret ?_; try dsimp only [thn, inBlk])
      | (refine AWP.condT ?_ ?_; (focus (simp [go_sem, hjm', ciB]; done)))
      | (refine AWP.condF ?_ ?_; (focus (simp [go_sem, hjm', ciB]; done)))
      | (apply AWP.rE; (focus (simp [go_sem, hjm', ciB]; exact ⟨rfl, rfl⟩)); try dsimp only [thn, inBlk])
      | (apply AWP.dE hmix [.n 0 [9], .n 1 [52], .n 2 [53], .n 3 [5, 54], .n 4 [9, 54], .n 5 [55, 56, 54], .n 6 [57, 54], .n 7 [5, 54], .n 8 [9, 54], .n 9 [60, 54], .n 10 [59, 61, 54], .n 11 [62, 54], .n 12 [58, 63, 54], .n 13 [54, 64]]; (focus kernel_rfl); (focus (simp [go_sem, hjm', ciB]; exact ⟨rfl, rfl⟩)); try dsimp only [thn, inBlk])
      | fail)
    simp [bodyQ, thn, inBlk, resA, resV, go_sem]
    exact ⟨a, cap, S, ⟨rfl, rfl, rfl⟩, hS, hSd, kB⟩
  have hjm' : (j : Int) < xs.length := by omega
  have hj' : xs[j]? = some xs[j] := List.getElem?_eq_getElem hjm
  obtain ⟨hpb, hpl⟩ := hP _ (List.getElem_mem hjm)
  have hkt := kids_take (q := q) hj'
  obtain ⟨bi, bo, cc, e', sz, ti, ro, aa, acap, q1, q2, q3, q4, q5⟩ := nds_row kB.b2 hj' (kd := .i64)
  generalize xs[j] = x at *
  obtain ⟨p, nd⟩ := x
  dsimp only at hpb hpl hkt q5
  have w1 : IntKind.i64.wrap ((j : Int) + 1) = ((j + 1 : Nat) : Int) := by rw [wI64 (by omega) (by omega)]; omega
  by_cases ht : p = [47]
  · have ht' : (p == [47]) = true := by simpa using ht
    have hk : kidP q p = false := by simp [kidP, ht]
    rw [hk] at hkt
    simp only [Bool.false_eq_true, if_false, List.append_nil] at hkt
    (repeat' first
      | refine AWP.seq ?_
      | refine AWP.block ?_
      | (refine AWP.skip ?_; try dsimp only [thn, inBlk])
      | (refine AWP.exit ?_; try simp only [thn, inBlk, if_true, reduceIte, Nat.reduceEqDiff])
      | (refine AWP.ret ?_; try dsimp only [thn, inBlk])
      | (refine AWP.condT ?_ ?_; (focus (simp [go_sem, hjm', ciB, q1, q2, q5, ht', w1]; done)))
      | (refine AWP.condF ?_ ?_; (focus (simp [go_sem, hjm', ciB, q1, q2, q5, ht', w1]; done)))
      | (apply AWP.rE; (focus (simp [go_sem, hjm', ciB, q1, q2, q5, ht', w1]; exact ⟨rfl, rfl⟩)); try dsimp only [thn, inBlk])
      | (apply AWP.dE hmix [.n 0 [9], .n 1 [52], .n 2 [53], .n 3 [5, 54], .n 4 [9, 54], .n 5 [55, 56, 54], .n 6 [57, 54], .n 7 [5, 54], .n 8 [9, 54], .n 9 [60, 54], .n 10 [59, 61, 54], .n 11 [62, 54], .n 12 [58, 63, 54], .n 13 [54, 64]]; (focus kernel_rfl); (focus (simp [go_sem, hjm', ciB, q1, q2, q5, ht', w1]; exact ⟨rfl, rfl⟩)); try dsimp only [thn, inBlk])
      | fail)
    exact ⟨xs.length - (j + 1), by omega, j + 1, a, cap, S, by omega, rfl, by simp [go_sem], by rw [hkt]; exact hS, hSd, kB⟩
  have ht' : (p == [47]) = false := by simpa using ht
  (repeat' first
    | refine AWP.seq ?_
    | refine AWP.block ?_
    | (refine AWP.skip ?_; try dsimp only [thn, inBlk])
    | (refine AWP.exit ?_; try simp only [thn, inBlk, if_true, reduceIte, Nat.reduceEqDiff])
    | (refine AWP.ret ?_; try dsimp only [thn, inBlk])
    | (refine AWP.condT ?_ ?_; (focus (simp [go_sem, hjm', ciB, q1, q2, q5]; done)))
    | (refine AWP.condF ?_ ?_; (focus (simp [go_sem, hjm', ciB, q1, q2, q5]; done)))
    | (apply AWP.rE; (focus (simp [go_sem, hjm', ciB, q1, q2, q5]; exact ⟨rfl, rfl⟩)); try dsimp only [thn, inBlk])
    | (apply AWP.dE hmix [.n 0 [9], .n 1 [52], .n 2 [53], .n 3 [5, 54], .n 4 [9, 54], .n 5 [55, 56, 54], .n 6 [57, 54], .n 7 [5, 54], .n 8 [9, 54], .n 9 [60, 54], .n 10 [59, 61, 54], .n 11 [62, 54], .n 12 [58, 63, 54], .n 13 [54, 64]]; (focus kernel_rfl); (focus (simp [go_sem, hjm', ciB, q1, q2, q5]; exact ⟨rfl, rfl⟩)); try dsimp only [thn, inBlk])
    | fail)
  refine AWP.callE (by simp [go_sem, ht']; exact ⟨rfl, rfl, rfl, rfl, rfl⟩) (by kernel_rfl) ?_
  refine (rpar_calls (l := p) (by omega)).mono ?_
  rintro r h2 ⟨rfl, rfl⟩
  by_cases hpq : par p = q
  rotate_left
  · have hpq' : (par p == q) = false := by simpa using hpq
    have hpqn : (par p != q) = true := by simpa using hpq
    have hk : kidP q p = false := by simp [kidP, hpq]
    rw [hk] at hkt
    simp only [Bool.false_eq_true, if_false, List.append_nil] at hkt
    refine awpL_restE (by simp [go_sem, hpq', hpqn]; exact ⟨rfl, rfl⟩) ?_; try dsimp only [thn, inBlk]
    (repeat' first
      | refine AWP.seq ?_
      | refine AWP.block ?_
      | (refine AWP.skip ?_; try dsimp only [thn, inBlk])
      | (refine AWP.exit ?_; try simp only [thn, inBlk, if_true, reduceIte, Nat.reduceEqDiff])
      | (refine AWP.ret ?_; try dsimp only [thn, inBlk])
      | (refine AWP.condT ?_ ?_; (focus (simp [go_sem, w1]; done)))
      | (refine AWP.condF ?_ ?_; (focus (simp [go_sem, w1]; done)))
      | (apply AWP.rE; (focus (simp [go_sem, w1]; exact ⟨rfl, rfl⟩)); try dsimp only [thn, inBlk])
      | (apply AWP.dE hmix [.n 0 [9], .n 1 [52], .n 2 [53], .n 3 [5, 54], .n 4 [9, 54], .n 5 [55, 56, 54], .n 6 [57, 54], .n 7 [5, 54], .n 8 [9, 54], .n 9 [60, 54], .n 10 [59, 61, 54], .n 11 [62, 54], .n 12 [58, 63, 54], .n 13 [54, 64]]; (focus kernel_rfl); (focus (simp [go_sem, w1]; exact ⟨rfl, rfl⟩)); try dsimp only [thn, inBlk])
      | fail)
    exact ⟨xs.length - (j + 1), by omega, j + 1, a, cap, S, by omega, rfl, by simp [go_sem], by rw [hkt]; exact hS, hSd, kB⟩
  have hpq' : (par p == q) = true := by simpa using hpq
  have hpqn : (par p != q) = false := by simpa using hpq
  have hk : kidP q p = true := by simp [kidP, hpq, ht]
  rw [hk, if_pos rfl] at hkt
  have h0 := pathB_head hpb
  have hp0 : 0 < p.length := by rcases p with _ | ⟨c, p⟩; simp at h0; simp
  have hqp : q.length ≤ p.length := by
    by_cases hq : q = [47]
    · rw [hq]; exact hp0
    · have := (base_sub h0 (by rw [hpq]; exact hq)).1
      rw [hpq] at this; omega
  have s1 : ∀ hh, sliceR Tryd.prog hh 9 (tx p) (some (.int .i64 (q.length : Int))) none none = some (tx (p.drop q.length)) := fun hh => by
    have := str_slice (P := Tryd.prog) (h := hh) Tryd.underlying9 (l := p) (lo := q.length) (hi := p.length) (a := some (.int .i64 (q.length : Int))) (u := none) hqp (by omega) (.inr ⟨.i64, rfl⟩) (.inl ⟨rfl, rfl⟩)
    rw [List.take_length] at this; exact this
  refine awpL_restE (by simp [go_sem, hpq', hpqn]; exact ⟨rfl, rfl⟩) ?_; try dsimp only [thn, inBlk]
  (repeat' first
    | refine AWP.seq ?_
    | refine AWP.block ?_
    | (refine AWP.skip ?_; try dsimp only [thn, inBlk])
    | (refine AWP.exit ?_; try simp only [thn, inBlk, if_true, reduceIte, Nat.reduceEqDiff])
    | (refine AWP.ret ?_; try dsimp only [thn, inBlk])
    | (refine AWP.condT ?_ ?_; (focus (simp [go_sem, s1]; done)))
    | (refine AWP.condF ?_ ?_; (focus (simp [go_sem, s1]; done)))
    | (apply AWP.rE; (focus (simp [go_sem, s1]; exact ⟨rfl, rfl⟩)); try dsimp only [thn, inBlk])
    | (apply AWP.dE hmix [.n 0 [9], .n 1 [52], .n 2 [53], .n 3 [5, 54], .n 4 [9, 54], .n 5 [55, 56, 54], .n 6 [57, 54], .n 7 [5, 54], .n 8 [9, 54], .n 9 [60, 54], .n 10 [59, 61, 54], .n 11 [62, 54], .n 12 [58, 63, 54], .n 13 [54, 64]]; (focus kernel_rfl); (focus (simp [go_sem, s1]; exact ⟨rfl, rfl⟩)); try dsimp only [thn, inBlk])
    | fail)
  refine AWP.cutT [0, 1, 5, 6, 8] (fun s h' => s = ⟨86, [(0, ptr i), (1, tx q), (5, .slice a S.length cap), (6, .int .i64 j), (8, tx (base p))]⟩ ∧ h' = h2) ?_ ?_
  · by_cases hq : q = [47]
    · have hq' : (q == [47]) = true := by simpa using hq
      have hqn : (q != [47]) = false := by simpa using hq
      have hb : base p = p.drop q.length := by rw [base_top hpb (by rw [hpq, hq]) ht, hq]; rfl
      rw [hb]
      (repeat' first
        | refine AWP.seq ?_
        | refine AWP.block ?_
        | (refine AWP.skip ?_; try dsimp only [thn, inBlk])
        | (refine AWP.exit ?_; try simp only [thn, inBlk, if_true, reduceIte, Nat.reduceEqDiff])
        | (refine AWP.ret ?_; try dsimp only [thn, inBlk])
        | (refine AWP.condT ?_ ?_; (focus (simp [go_sem, hq', hqn]; done)))
        | (refine AWP.condF ?_ ?_; (focus (simp [go_sem, hq', hqn]; done)))
        | (apply AWP.rE; (focus (simp [go_sem, hq', hqn]; exact ⟨rfl, rfl⟩)); try dsimp only [thn, inBlk])
        | (apply AWP.dE hmix [.n 0 [9], .n 1 [52], .n 2 [53], .n 3 [5, 54], .n 4 [9, 54], .n 5 [55, 56, 54], .n 6 [57, 54], .n 7 [5, 54], .n 8 [9, 54], .n 9 [60, 54], .n 10 [59, 61, 54], .n 11 [62, 54], .n 12 [58, 63, 54], .n 13 [54, 64]]; (focus kernel_rfl); (focus (simp [go_sem, hq', hqn]; exact ⟨rfl, rfl⟩)); try dsimp only [thn, inBlk])
        | fail)
      exact ⟨by simp [go_sem], rfl⟩
    · have hq' : (q == [47]) = false := by simpa using hq
      have hqn : (q != [47]) = true := by simpa using hq
      obtain ⟨b1, b2⟩ := base_sub h0 (by rw [hpq]; exact hq)
      rw [hpq] at b1 b2
      have s2 : ∀ hh, sliceR Tryd.prog hh 9 (tx (p.drop q.length)) (some (.int .i64 1)) none none = some (tx (base p)) := fun hh => by
        have := str_slice (P := Tryd.prog) (h := hh) Tryd.underlying9 (l := p.drop q.length) (lo := 1) (hi := (p.drop q.length).length) (a := some (.int .i64 1)) (u := none) (by simp; omega) (by omega) (.inr ⟨.i64, rfl⟩) (.inl ⟨rfl, rfl⟩)
        rw [List.take_length, List.drop_drop] at this
        rw [this, b2]
      (repeat' first
        | refine AWP.seq ?_
        | refine AWP.block ?_
        | (refine AWP.skip ?_; try dsimp only [thn, inBlk])
        | (refine AWP.exit ?_; try simp only [thn, inBlk, if_true, reduceIte, Nat.reduceEqDiff])
        | (refine AWP.ret ?_; try dsimp only [thn, inBlk])
        | (refine AWP.condT ?_ ?_; (focus (simp [go_sem, hq', hqn, s2]; done)))
        | (refine AWP.condF ?_ ?_; (focus (simp [go_sem, hq', hqn, s2]; done)))
        | (apply AWP.rE; (focus (simp [go_sem, hq', hqn, s2]; exact ⟨rfl, rfl⟩)); try dsimp only [thn, inBlk])
        | (apply AWP.dE hmix [.n 0 [9], .n 1 [52], .n 2 [53], .n 3 [5, 54], .n 4 [9, 54], .n 5 [55, 56, 54], .n 6 [57, 54], .n 7 [5, 54], .n 8 [9, 54], .n 9 [60, 54], .n 10 [59, 61, 54], .n 11 [62, 54], .n 12 [58, 63, 54], .n 13 [54, 64]]; (focus kernel_rfl); (focus (simp [go_sem, hq', hqn, s2]; exact ⟨rfl, rfl⟩)); try dsimp only [thn, inBlk])
        | fail)
      exact ⟨by simp [go_sem], rfl⟩
  rintro s h3 ⟨rfl, rfl⟩
  generalize base p = x at *
  obtain ⟨na, nc, h7, e7, k7⟩ := Own.appN (P := Tryd.prog) (t := 69) (xt := 69) (m := 1) (xs := [tx x]) (i := h3.next) Tryd.underlying69 tsz9 tby9 tz9 nI69 (by omega) (by omega) (by rfl) kB rfl rfl rfl (by omega)
  have k8 : Own O h7 (os 9 1 (.slice na (S.length + 1) nc) (S.length + 1) ((S ++ [x]).map Ab.T) :: cell i (rrow (.slice va xs.length vc)) :: nds (.slice va xs.length vc) xs :: R) := by
    have e2 : (S ++ [x]).map T = S.map T ++ [tx x] := by simp [T]
    rw [e2]; exact k7
  have wK : IntKind.i64.wrap (S.length : Int) = (S.length : Int) := wI64 (by omega) (by omega)
  (repeat' first
    | refine AWP.seq ?_
    | refine AWP.block ?_
    | (refine AWP.skip ?_; try dsimp only [thn, inBlk])
    | (refine AWP.exit ?_; try simp only [thn, inBlk, if_true, reduceIte, Nat.reduceEqDiff])
    | (refine AWP.ret ?_; try dsimp only [thn, inBlk])
    | (refine AWP.condT ?_ ?_; (focus (simp [go_sem, e7, wK]; done)))
    | (refine AWP.condF ?_ ?_; (focus (simp [go_sem, e7, wK]; done)))
    | (apply AWP.rE; (focus (simp [go_sem, e7, wK]; exact ⟨rfl, rfl⟩)); try dsimp only [thn, inBlk])
    | (apply AWP.dE hmix [.n 0 [9], .n 1 [52], .n 2 [53], .n 3 [5, 54], .n 4 [9, 54], .n 5 [55, 56, 54], .n 6 [57, 54], .n 7 [5, 54], .n 8 [9, 54], .n 9 [60, 54], .n 10 [59, 61, 54], .n 11 [62, 54], .n 12 [58, 63, 54], .n 13 [54, 64]]; (focus kernel_rfl); (focus (simp [go_sem, e7, wK]; exact ⟨rfl, rfl⟩)); try dsimp only [thn, inBlk])
    | fail)
  generalize hV : Value.slice na (S.length + 1) nc = V at *
  refine AWP.loopR [0, 1, 6, 5, 9] (fun m s h' => ∃ (A B : List (List UInt8)), m = A.length ∧ S = A ++ B ∧ (∀ b ∈ B, x < b) ∧ s = ⟨86, [(0, ptr i), (1, tx q), (6, .int .i64 j), (5, V), (9, .int .i64 A.length)]⟩ ∧ Own O h' (os 9 1 V (S.length + 1) ((A ++ x :: B).map Ab.T) :: cell i (rrow (.slice va xs.length vc)) :: nds (.slice va xs.length vc) xs :: R)) ?_ ?_
  · exact ⟨_, S, [], rfl, by simp, by simp, by simp [go_sem], k8⟩
  rintro m s hE ⟨A, B, rfl, hAB, hB2, rfl, kE⟩
  have fin : (∀ y, A.getLast? = some y → ¬ x < y) → ∃ (S2 : List (List UInt8)), S2.length = S.length + 1 ∧ S2.Perm (kids (xs.take (j + 1)) q) ∧ Sd S2 ∧ Own O hE (txs (.slice na S2.length nc) S2 :: cell i (rrow (.slice va xs.length vc)) :: nds (.slice va xs.length vc) xs :: R) := fun hy => by
    have hl : (A ++ x :: B).length = S.length + 1 := by rw [hAB]; simp; omega
    refine ⟨A ++ x :: B, hl, ?_, ?_, ?_⟩
    · rw [hkt]
      refine List.perm_middle.trans ?_
      rw [← hAB]
      exact ((List.Perm.cons x hS).trans (List.perm_append_comm (l₁ := [x])))
    · rw [hAB] at hSd; exact hSd.ins hB2 hy
    · show Own O hE (os 9 1 (.slice na (A ++ x :: B).length nc) (A ++ x :: B).length ((A ++ x :: B).map Ab.T) :: _)
      rw [hl, hV]; exact kE
  rcases List.eq_nil_or_concat A with rfl | ⟨A', y, rfl⟩
  · obtain ⟨S2, hl, f1, f2, f3⟩ := fin (by simp)
    (repeat' first
      | refine AWP.seq ?_
      | refine AWP.block ?_
      | (refine AWP.skip ?_; try dsimp only [thn, inBlk])
      | (refine AWP.exit ?_; try simp only [thn, inBlk, if_true, reduceIte, Nat.reduceEqDiff])
      | (refine AWP.ret ?_; try dsimp only [thn, inBlk])
      | (refine AWP.condT ?_ ?_; (focus (simp [go_sem, w1]; done)))
      | (refine AWP.condF ?_ ?_; (focus (simp [go_sem, w1]; done)))
      | (apply AWP.rE; (focus (simp [go_sem, w1]; exact ⟨rfl, rfl⟩)); try dsimp only [thn, inBlk])
      | (apply AWP.dE hmix [.n 0 [9], .n 1 [52], .n 2 [53], .n 3 [5, 54], .n 4 [9, 54], .n 5 [55, 56, 54], .n 6 [57, 54], .n 7 [5, 54], .n 8 [9, 54], .n 9 [60, 54], .n 10 [59, 61, 54], .n 11 [62, 54], .n 12 [58, 63, 54], .n 13 [54, 64]]; (focus kernel_rfl); (focus (simp [go_sem, w1]; exact ⟨rfl, rfl⟩)); try dsimp only [thn, inBlk])
      | fail)
    exact ⟨xs.length - (j + 1), by omega, j + 1, na, nc, S2, by omega, rfl, by rw [hl, hV]; simp [go_sem], f1, f2, f3⟩
  rw [List.concat_eq_append] at *
  obtain ⟨p1, hp1⟩ : ∃ p, p = A'.length := ⟨_, rfl⟩
  obtain ⟨q9, hq9⟩ : ∃ q, q = p1 + 1 := ⟨_, rfl⟩
  have hlA : (A' ++ [y]).length = q9 := by simp; omega
  have hKl : q9 ≤ S.length := by rw [hAB, List.length_append, hlA]; omega
  rw [hlA]
  have hq0 : (0 : Int) < q9 := by omega
  have hq0' : 0 < q9 := by omega
  have wq : IntKind.i64.wrap ((q9 : Int) - 1) = (p1 : Int) := by rw [wI64 (by omega) (by omega)]; omega
  have hL : A' ++ [y] ++ x :: B = A' ++ y :: x :: B := by simp
  rw [hL] at kE
  have hnl : (A' ++ y :: x :: B).length = S.length + 1 := by rw [hAB]; simp; omega
  have hx1 : ((A' ++ y :: x :: B).map Ab.T)[q9]? = some (tx x) := by
    rw [List.getElem?_map, List.getElem?_append_right (by omega), show q9 - A'.length = 1 by omega]; rfl
  have hx0 : ((A' ++ y :: x :: B).map Ab.T)[p1]? = some (tx y) := by
    rw [List.getElem?_map, List.getElem?_append_right (by omega), show p1 - A'.length = 0 by omega]; rfl
  have hnq : q9 < S.length + 1 := by omega
  have hnp : p1 < S.length + 1 := by omega
  obtain ⟨b1, o1, c1, _, _, _, _, a1, r1, u1⟩ := kE.os_sl.at1 (P := Tryd.prog) (t := 69) Tryd.underlying69 tsz9 hnq hx1 (kd := .i64)
  obtain ⟨b2, o2, c2, _, _, _, _, a2, r2, u2⟩ := kE.os_sl.at1 (P := Tryd.prog) (t := 69) Tryd.underlying69 tsz9 hnp hx0 (kd := .i64)
  by_cases hlt : x < y
  rotate_left
  · obtain ⟨S2, hl, f1, f2, f3⟩ := fin (fun z hz => by simp at hz; rw [← hz]; exact hlt)
    (repeat' first
      | refine AWP.seq ?_
      | refine AWP.block ?_
      | (refine AWP.skip ?_; try dsimp only [thn, inBlk])
      | (refine AWP.exit ?_; try simp only [thn, inBlk, if_true, reduceIte, Nat.reduceEqDiff])
      | (refine AWP.ret ?_; try dsimp only [thn, inBlk])
      | (refine AWP.condT ?_ ?_; (focus (simp [go_sem, hq0, hq0', wq, a1, r1, u1, a2, r2, u2, strA_lss, hlt, w1]; done)))
      | (refine AWP.condF ?_ ?_; (focus (simp [go_sem, hq0, hq0', wq, a1, r1, u1, a2, r2, u2, strA_lss, hlt, w1]; done)))
      | (apply AWP.rE; (focus (simp [go_sem, hq0, hq0', wq, a1, r1, u1, a2, r2, u2, strA_lss, hlt, w1]; exact ⟨rfl, rfl⟩)); try dsimp only [thn, inBlk])
      | (apply AWP.dE hmix [.n 0 [9], .n 1 [52], .n 2 [53], .n 3 [5, 54], .n 4 [9, 54], .n 5 [55, 56, 54], .n 6 [57, 54], .n 7 [5, 54], .n 8 [9, 54], .n 9 [60, 54], .n 10 [59, 61, 54], .n 11 [62, 54], .n 12 [58, 63, 54], .n 13 [54, 64]]; (focus kernel_rfl); (focus (simp [go_sem, hq0, hq0', wq, a1, r1, u1, a2, r2, u2, strA_lss, hlt, w1]; exact ⟨rfl, rfl⟩)); try dsimp only [thn, inBlk])
      | fail)
    exact ⟨xs.length - (j + 1), by omega, j + 1, na, nc, S2, by omega, rfl, by rw [hl, hV]; simp [go_sem], f1, f2, f3⟩
  have hs1 : (A' ++ y :: x :: B).set q9 y = A' ++ y :: y :: B := by
    rw [List.set_append_right _ _ (by omega), show q9 - A'.length = 1 by omega]; rfl
  have hs2 : (A' ++ y :: y :: B).set p1 x = A' ++ x :: y :: B := by
    rw [List.set_append_right _ _ (by omega), show p1 - A'.length = 0 by omega]; rfl
  obtain ⟨b3, o3, c3, ti3, a3, r3, m3, k12⟩ := Own.ts_write (P := Tryd.prog) (t := 69) hnl.symm kE Tryd.underlying69 tsz9 hnq y (kd := .i64)
  cases a1.symm.trans a3
  rw [hs1] at k12
  obtain ⟨b4, o4, c4, ti4, a4, r4, m4, k13⟩ := Own.ts_write (P := Tryd.prog) (t := 69) (by simp at hnl ⊢; omega) k12 Tryd.underlying69 tsz9 hnp x (kd := .i64)
  cases a2.symm.trans a4
  rw [hs2] at k13
  have m3' : o1 + 1 ≤ c3.length := m3
  have m4' : o2 + 1 ≤ c4.length := m4
  cases r1.symm.trans r3
  generalize hG : hE.set b1 (.row (c1.set o1 (.string ⟨y.toArray⟩)) 9 1 _ false) = hF at *
  (repeat' first
    | refine AWP.seq ?_
    | refine AWP.block ?_
    | (refine AWP.skip ?_; try dsimp only [thn, inBlk])
    | (refine AWP.exit ?_; try simp only [thn, inBlk, if_true, reduceIte, Nat.reduceEqDiff])
    | (refine AWP.ret ?_; try dsimp only [thn, inBlk])
    | (refine AWP.condT ?_ ?_; (focus (simp [go_sem, hq0, hq0', wq, a1, r1, u1, a2, r2, u2, strA_lss, hlt, m3', hG, r4, m4']; done)))
    | (refine AWP.condF ?_ ?_; (focus (simp [go_sem, hq0, hq0', wq, a1, r1, u1, a2, r2, u2, strA_lss, hlt, m3', hG, r4, m4']; done)))
    | (apply AWP.rE; (focus (simp [go_sem, hq0, hq0', wq, a1, r1, u1, a2, r2, u2, strA_lss, hlt, m3', hG, r4, m4']; exact ⟨rfl, rfl⟩)); try dsimp only [thn, inBlk])
    | (apply AWP.dE hmix [.n 0 [9], .n 1 [52], .n 2 [53], .n 3 [5, 54], .n 4 [9, 54], .n 5 [55, 56, 54], .n 6 [57, 54], .n 7 [5, 54], .n 8 [9, 54], .n 9 [60, 54], .n 10 [59, 61, 54], .n 11 [62, 54], .n 12 [58, 63, 54], .n 13 [54, 64]]; (focus kernel_rfl); (focus (simp [go_sem, hq0, hq0', wq, a1, r1, u1, a2, r2, u2, strA_lss, hlt, m3', hG, r4, m4']; exact ⟨rfl, rfl⟩)); try dsimp only [thn, inBlk])
    | fail)
  refine ⟨A'.length, by omega, A', y :: B, rfl, by rw [hAB, List.append_assoc]; rfl, fun b hb => ?_, by rw [← hp1]; simp [go_sem], k13⟩
  rcases List.mem_cons.1 hb with rfl | hb
  · exact hlt
  · exact hB2 b hb
end
end L19
