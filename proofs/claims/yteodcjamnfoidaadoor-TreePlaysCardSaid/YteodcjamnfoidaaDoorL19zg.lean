import Derived.Test.YteodcjamnfoidaaDoorL19zf
import Derived.Test.YteodcjamnfoidaaDoorAbLibE
open Go Ab Go.Proofs
namespace L19
set_option autoImplicit false
set_option linter.unusedSimpArgs false
set_option linter.unusedVariables false

/-! ### The document's tree -/
abbrev rrow (v : Value) : AObj := .row [v] 58 1 true false
def rts (i : Nat) (xs : TL) : Chunk := ex fun v : Value => star [cell i (rrow v), nds v xs]
theorem rts_iff {O : Old} {h : AHeap} {R : List Chunk} {i : Nat} {xs : TL} : Own O h (rts i xs :: R) ↔ ∃ v, Own O h (cell i (rrow v) :: nds v xs :: R) := by
  simp only [rts, Own.ex_iff, Own.star_iff, List.cons_append, List.nil_append]
def idxE (xs : TL) (p : List UInt8) : Option Nat := xs.findIdx? fun x => x.1 == p
def idxV (xs : TL) (p : List UInt8) : Int := match idxE xs p with
  | some j => j
  | none => -1
section
variable {O : Old} {h : AHeap} {R : List Chunk} {i : Nat} {xs : TL}
theorem idx_some {p : List UInt8} {j : Nat} (h : idxE xs p = some j) : ∃ nd, xs[j]? = some (p, nd) ∧ get xs p = some nd ∧ idxV xs p = j := by
  have h2 := h
  unfold idxE at h
  rw [List.findIdx?_eq_some_iff_getElem] at h
  obtain ⟨h1, h3, h4⟩ := h
  have h3 : xs[j].1 = p := by simpa using h3
  refine ⟨xs[j].2, ?_, ?_, by simp only [idxV, h2]⟩
  · rw [List.getElem?_eq_getElem h1, ← h3]
  · have : xs.find? (fun x => x.1 == p) = some xs[j] := by
      rw [List.find?_eq_some_iff_getElem]
      exact ⟨by simpa using h3, j, h1, rfl, fun x hx => by simpa using h4 x hx⟩
    unfold get; rw [this]; rfl
theorem idx_none {p : List UInt8} (h : idxE xs p = none) : get xs p = none ∧ idxV xs p = -1 := by
  refine ⟨?_, by simp only [idxV, h]⟩
  unfold idxE at h
  rw [List.findIdx?_eq_none_iff] at h
  unfold get
  rw [Option.map_eq_none_iff, List.find?_eq_none]
  intro x hx; simpa using h x hx
theorem rat_calls {p : List UInt8} {v : Value} (k : Own O h (cell i (rrow v) :: nds v xs :: R)) (hm : xs.length ≤ 1000000) :
    ACalls Tryd.prog 46 #[ptr i, tx p] h fun r h' => r = .int .i64 (idxV xs p) ∧ h' = h := by
  refine ACalls.of_awp (args := [ptr i, tx p]) (n := 26) Tryd.func46 rfl rfl (by show 2 ≤ 26; omega) ?_
  obtain ⟨va, vc, rfl⟩ := k.b1.grecs_val
  have ci := k.obj
  (repeat' first
    | refine AWP.seq ?_
    | refine AWP.block ?_
    | (refine AWP.skip ?_; try dsimp only [thn, inBlk])
    | (refine AWP.exit ?_; try simp only [thn, inBlk, if_true, reduceIte, Nat.reduceEqDiff])
    | (refine AWP.ret ?_; try dsimp only [thn, inBlk])
    | (refine AWP.condT ?_ ?_; (focus (simp [go_sem]; done)))
    | (refine AWP.condF ?_ ?_; (focus (simp [go_sem]; done)))
    | (apply AWP.rE; (focus (simp [go_sem]; exact ⟨rfl, rfl⟩)); try dsimp only [thn, inBlk])
    | fail)
  refine AWP.loopR [0, 1, 5] (fun m s h' => ∃ j : Nat, j ≤ xs.length ∧ m = xs.length - j ∧ s = ⟨26, [(0, ptr i), (1, tx p), (5, .int .i64 j)]⟩ ∧ (∀ x e, x < j → xs[x]? = some e → e.1 ≠ p) ∧ h' = h) ?_ ?_
  · exact ⟨_, 0, by omega, rfl, rfl, fun x e hx => by omega, rfl⟩
  rintro m s hB ⟨j, hj, rfl, rfl, hI, rfl⟩
  by_cases hjm : j < xs.length
  · have hjm' : (j : Int) < xs.length := by omega
    have hj' : xs[j]? = some xs[j] := List.getElem?_eq_getElem hjm
    obtain ⟨bi, bo, c, e', sz, ti, ro, a, cap, q1, q2, q3, q4, q5⟩ := nds_row k.b1 hj' (kd := .i64)
    have w1 : IntKind.i64.wrap ((j : Int) + 1) = ((j + 1 : Nat) : Int) := by rw [wI64 (by omega) (by omega)]; omega
    by_cases hn : xs[j].1 = p
    · have e1 : idxE xs p = some j := by
        unfold idxE
        rw [List.findIdx?_eq_some_iff_getElem]
        exact ⟨hjm, by simpa using hn, fun x hx => by simpa using hI x _ hx (List.getElem?_eq_getElem (by omega))⟩
      have e2 : idxV xs p = j := by simp only [idxV, e1]
      have hn' : (xs[j].1 == p) = true := by simpa using hn
      rw [e2]
      generalize xs[j] = e at *
      (repeat' first
        | refine AWP.seq ?_
        | refine AWP.block ?_
        | (refine AWP.skip ?_; try dsimp only [thn, inBlk])
        | (refine AWP.exit ?_; try simp only [thn, inBlk, if_true, reduceIte, Nat.reduceEqDiff])
        | (refine AWP.ret ?_; try dsimp only [thn, inBlk])
        | (refine AWP.condT ?_ ?_; (focus (simp [go_sem, ci, hjm', q1, q2, q5, hn']; done)))
        | (refine AWP.condF ?_ ?_; (focus (simp [go_sem, ci, hjm', q1, q2, q5, hn']; done)))
        | (apply AWP.rE; (focus (simp [go_sem, ci, hjm', q1, q2, q5, hn']; exact ⟨rfl, rfl⟩)); try dsimp only [thn, inBlk])
        | fail)
      simp [bodyQ, thn, inBlk, resA, resV, go_sem]
    · have hn' : (xs[j].1 == p) = false := by simpa using hn
      generalize xs[j] = e at *
      (repeat' first
        | refine AWP.seq ?_
        | refine AWP.block ?_
        | (refine AWP.skip ?_; try dsimp only [thn, inBlk])
        | (refine AWP.exit ?_; try simp only [thn, inBlk, if_true, reduceIte, Nat.reduceEqDiff])
        | (refine AWP.ret ?_; try dsimp only [thn, inBlk])
        | (refine AWP.condT ?_ ?_; (focus (simp [go_sem, ci, hjm', q1, q2, q5, hn', w1]; done)))
        | (refine AWP.condF ?_ ?_; (focus (simp [go_sem, ci, hjm', q1, q2, q5, hn', w1]; done)))
        | (apply AWP.rE; (focus (simp [go_sem, ci, hjm', q1, q2, q5, hn', w1]; exact ⟨rfl, rfl⟩)); try dsimp only [thn, inBlk])
        | fail)
      refine ⟨xs.length - (j + 1), by omega, j + 1, by omega, rfl, by simp [go_sem], fun x e' hx hx' => ?_, rfl⟩
      by_cases e1 : x = j
      · subst e1; rw [hj'] at hx'; rw [← Option.some.inj hx']; exact hn
      · exact hI x e' (by omega) hx'
  · have hjm' : ¬ (j : Int) < xs.length := by omega
    have e1 : idxE xs p = none := by
      unfold idxE
      rw [List.findIdx?_eq_none_iff]
      intro x hx
      obtain ⟨q, hq⟩ := List.mem_iff_getElem?.1 hx
      simpa using hI q x (by have := (List.getElem?_eq_some_iff.1 hq).1; omega) hq
    have e2 : idxV xs p = -1 := by simp only [idxV, e1]
    rw [e2]
    (repeat' first
      | refine AWP.seq ?_
      | refine AWP.block ?_
      | (refine AWP.skip ?_; try dsimp only [thn, inBlk])
      | (refine AWP.exit ?_; try simp only [thn, inBlk, if_true, reduceIte, Nat.reduceEqDiff])
      | (refine AWP.ret ?_; try dsimp only [thn, inBlk])
      | (refine AWP.condT ?_ ?_; (focus (simp [go_sem, ci, hjm']; done)))
      | (refine AWP.condF ?_ ?_; (focus (simp [go_sem, ci, hjm']; done)))
      | (apply AWP.rE; (focus (simp [go_sem, ci, hjm']; exact ⟨rfl, rfl⟩)); try dsimp only [thn, inBlk])
      | fail)
    simp [bodyQ, thn, inBlk, resA, resV, go_sem]
theorem mode1 : ∀ m, m < 64 → ∀ b ∈ [1, 2, 4], ((m % 8 / b % 2 == 1) = ((m &&& b) != 0)) ∧ ((m / 8 / b % 2 == 1) = (((m / 8) &&& b) != 0)) := by decide
set_option maxHeartbeats 4000000 in
theorem rmay_calls {who : List UInt8} {x : List UInt8 × Nd} {a : Option Addr} {cap bit : Nat} (k : Own O h R) (hm : x.2.mode ≤ 63) (hb : bit ∈ [1, 2, 4]) :
    ACalls Tryd.prog 47 #[tx who, .agg (agN x a cap).toArray, .int .i64 bit] h fun r h' => r = .bool (may who x.2 bit) ∧ Own O h' R := by
  refine ACalls.of_awp (args := [tx who, .agg (agN x a cap).toArray, .int .i64 bit]) (n := 25) Tryd.func47 rfl rfl (by show 3 ≤ 25; omega) ?_
  obtain ⟨p, ⟨dir, own, mode, data⟩⟩ := x
  dsimp only at hm
  have k1 := k.push (.row [tx p, .bool dir, tx own, .int .i64 mode, .slice a data.length cap] 43 5 true false)
  have c1 := k1.obj
  have hb4 : bit ≤ 4 ∧ 1 ≤ bit := by simp at hb; omega
  obtain ⟨m1, m2⟩ := mode1 mode (by omega) bit hb
  have hr : may who ⟨dir, own, mode, data⟩ bit = (who == rootB || ((if who = own then mode / 8 else mode) &&& bit) != 0) := rfl
  rw [hr]
  by_cases h2 : who = rootB
  · have h2' : (who == [114, 111, 111, 116]) = true := by simpa [rootB] using h2
    have e : (who == rootB) = true := h2'
    rw [e, Bool.true_or]
    (repeat' first
      | refine AWP.seq ?_
      | refine AWP.block ?_
      | (refine AWP.skip ?_; try dsimp only [thn, inBlk])
      | (refine AWP.exit ?_; try simp only [thn, inBlk, if_true, reduceIte, Nat.reduceEqDiff])
      | (refine AWP.ret ?_; try dsimp only [thn, inBlk])
      | (refine AWP.condT ?_ ?_; (focus (simp [go_sem, h2']; done)))
      | (refine AWP.condF ?_ ?_; (focus (simp [go_sem, h2']; done)))
      | (apply AWP.rE; (focus (simp [go_sem, h2']; exact ⟨rfl, rfl⟩)); try dsimp only [thn, inBlk])
      | fail)
    simp [bodyQ, thn, inBlk, resA, resV, go_sem]
    exact k1.tail
  have h2' : (who == [114, 111, 111, 116]) = false := by simpa [rootB] using h2
  have e : (who == rootB) = false := h2'
  rw [e, Bool.false_or]
  have hb0 : ¬ bit = 0 := by omega
  have key : ∀ M : Nat, M < 64 → ∃ D : Nat, D = M / bit ∧ IntKind.i64.wrap ((M : Int).tdiv (bit : Int)) = (D : Int) ∧ IntKind.i64.wrap ((M : Int) / (bit : Int)) = (D : Int) ∧ (((D : Int).tmod 2 == 1) = (D % 2 == 1)) := fun M hM => by
    have hD : M / bit ≤ M := Nat.div_le_self _ _
    have e1 : ((M : Int) / (bit : Int)) = ((M / bit : Nat) : Int) := (Int.natCast_ediv M bit).symm
    have e2 : ((M : Int).tdiv (bit : Int)) = ((M / bit : Nat) : Int) := by rw [Int.tdiv_eq_ediv_of_nonneg (by omega)]; exact e1
    obtain ⟨D, hDD⟩ : ∃ D, D = M / bit := ⟨_, rfl⟩
    rw [← hDD] at hD e1 e2
    have wD : IntKind.i64.wrap (D : Int) = (D : Int) := wI64 (by omega) (by omega)
    refine ⟨D, hDD, by rw [e2, wD], by rw [e1, wD], ?_⟩
    rw [Int.tmod_eq_emod_of_nonneg (by omega), Bool.eq_iff_iff]
    simp; omega
  by_cases h1 : who = own
  · have h1' : (who == own) = true := by simpa using h1
    rw [if_pos h1, ← m2]
    obtain ⟨M, hM⟩ : ∃ M, M = mode / 8 := ⟨_, rfl⟩
    have wq : IntKind.i64.wrap ((mode : Int) / 8) = (M : Int) := by rw [wI64 (by omega) (by omega)]; omega
    obtain ⟨D, hD, d1, d2, d3⟩ := key M (by omega)
    rw [← hM, ← hD, ← d3]
    (repeat' first
      | refine AWP.seq ?_
      | refine AWP.block ?_
      | (refine AWP.skip ?_; try dsimp only [thn, inBlk])
      | (refine AWP.exit ?_; try simp only [thn, inBlk, if_true, reduceIte, Nat.reduceEqDiff])
      | (refine AWP.ret ?_; try dsimp only [thn, inBlk])
      | (refine AWP.condT ?_ ?_; (focus (simp [go_sem, h1', h2', c1, wq, hb0, d1, d2]; done)))
      | (refine AWP.condF ?_ ?_; (focus (simp [go_sem, h1', h2', c1, wq, hb0, d1, d2]; done)))
      | (apply AWP.rE; (focus (simp [go_sem, h1', h2', c1, wq, hb0, d1, d2]; exact ⟨rfl, rfl⟩)); try dsimp only [thn, inBlk])
      | fail)
    simp [bodyQ, thn, inBlk, resA, resV, go_sem]
    exact k1.tail
  · have h1' : (who == own) = false := by simpa using h1
    rw [if_neg h1, ← m1]
    obtain ⟨M, hM⟩ : ∃ M, M = mode % 8 := ⟨_, rfl⟩
    have wq : (mode : Int).tmod 8 = (M : Int) := by rw [Int.tmod_eq_emod_of_nonneg (by omega)]; omega
    obtain ⟨D, hD, d1, d2, d3⟩ := key M (by omega)
    rw [← hM, ← hD, ← d3]
    (repeat' first
      | refine AWP.seq ?_
      | refine AWP.block ?_
      | (refine AWP.skip ?_; try dsimp only [thn, inBlk])
      | (refine AWP.exit ?_; try simp only [thn, inBlk, if_true, reduceIte, Nat.reduceEqDiff])
      | (refine AWP.ret ?_; try dsimp only [thn, inBlk])
      | (refine AWP.condT ?_ ?_; (focus (simp [go_sem, h1', h2', c1, wq, hb0, d1, d2]; done)))
      | (refine AWP.condF ?_ ?_; (focus (simp [go_sem, h1', h2', c1, wq, hb0, d1, d2]; done)))
      | (apply AWP.rE; (focus (simp [go_sem, h1', h2', c1, wq, hb0, d1, d2]; exact ⟨rfl, rfl⟩)); try dsimp only [thn, inBlk])
      | fail)
    simp [bodyQ, thn, inBlk, resA, resV, go_sem]
    exact k1.tail
end
end L19
