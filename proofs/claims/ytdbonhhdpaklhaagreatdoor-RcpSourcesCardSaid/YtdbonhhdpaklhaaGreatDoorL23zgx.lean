import Derived.Test.YtdbonhhdpaklhaaGreatDoorL23zbx
import Derived.Test.YtdbonhhdpaklhaaGreatDoorAbLibE
section
open Go Ab Go.Proofs
namespace L23
set_option autoImplicit false
set_option linter.unusedSimpArgs false
set_option linter.unusedVariables false

/-! ### The document's tree -/
abbrev rrow (v : Value) : AObj := .row [v] 42 1 true false
def rts (i : Nat) (xs : TL) : Chunk := ex fun v : Value => star [cell i (rrow v), nds v xs]
theorem rts_iff {O : Old} {h : AHeap} {R : List Chunk} {i : Nat} {xs : TL} : Own O h (rts i xs :: R) ↔ ∃ v, Own O h (cell i (rrow v) :: nds v xs :: R) := by
  simp only [rts, Own.ex_iff, Own.star_iff, List.cons_append, List.nil_append]
def idxE (xs : TL) (p : List UInt8) : Option Nat := xs.findIdx? fun x => x.1 == p
def idxV (xs : TL) (p : List UInt8) : Int := match idxE xs p with
  | some j => j
  | none => -1
section
variable {O : Old} {h : AHeap} {R : List Chunk} {i : Nat} {xs : TL}
theorem idx_some {p : List UInt8} {j : Nat} (h : idxE xs p = some j) : ∃ nd, xs[j]? = some (p, nd) ∧ get xs p = some nd ∧ idxV xs p = j := by
  have h2 := h
  unfold idxE at h
  rw [List.findIdx?_eq_some_iff_getElem] at h
  obtain ⟨h1, h3, h4⟩ := h
  have h3 : xs[j].1 = p := by simpa using h3
  refine ⟨xs[j].2, ?_, ?_, by simp only [idxV, h2]⟩
  · rw [List.getElem?_eq_getElem h1, ← h3]
  · have : xs.find? (fun x => x.1 == p) = some xs[j] := by
      rw [List.find?_eq_some_iff_getElem]
      exact ⟨by simpa using h3, j, h1, rfl, fun x hx => by simpa using h4 x hx⟩
    unfold get; rw [this]; rfl
theorem idx_none {p : List UInt8} (h : idxE xs p = none) : get xs p = none ∧ idxV xs p = -1 := by
  refine ⟨?_, by simp only [idxV, h]⟩
  unfold idxE at h
  rw [List.findIdx?_eq_none_iff] at h
  unfold get
  rw [Option.map_eq_none_iff, List.find?_eq_none]
  intro x hx; simpa using h x hx
theorem rat_calls {p : List UInt8} {v : Value} (k : Own O h (cell i (rrow v) :: nds v xs :: R)) (hm : xs.length ≤ 1000000) :
    ACalls Tryz.prog 41 #[ptr i, tx p] h fun r h' => r = .int .i64 (idxV xs p) ∧ h' = h := by
  refine ACalls.of_awp (args := [ptr i, tx p]) (n := 26) Tryz.func41 rfl rfl (by show 2 ≤ 26; omega) ?_
  obtain ⟨va, vc, rfl⟩ := k.b1.grecs_val
  have ci := k.obj
  (repeat' first
    | refine AWP.seq ?_
    | refine AWP.block ?_
    | (refine AWP.skip ?_; try dsimp only [thn, inBlk])
    | (refine AWP.exit ?_; try simp only [thn, inBlk, if_true, reduceIte, Nat.reduceEqDiff])
    | (refine AWP.ret ?_; try dsimp only [thn, inBlk])
    | (refine AWP.condT ?_ ?_; (focus (simp [go_sem]; done)))
    | (refine AWP.condF ?_ ?_; (focus (simp [go_sem]; done)))
    | (apply AWP.rE; (focus (simp [go_sem]; exact ⟨rfl, rfl⟩)); try dsimp only [thn, inBlk])
    | fail)
  refine AWP.loopR [0, 1, 5] (fun m s h' => ∃ j : Nat, j ≤ xs.length ∧ m = xs.length - j ∧ s = ⟨26, [(0, ptr i), (1, tx p), (5, .int .i64 j)]⟩ ∧ (∀ x e, x < j → xs[x]? = some e → e.1 ≠ p) ∧ h' = h) ?_ ?_
  · exact ⟨_, 0, by omega, rfl, rfl, fun x e hx => by omega, rfl⟩
  rintro m s hB ⟨j, hj, rfl, rfl, hI, rfl⟩
  by_cases hjm : j < xs.length
  · have hjm' : (j : Int) < xs.length := by omega
    have hj' : xs[j]? = some xs[j] := List.getElem?_eq_getElem hjm
    obtain ⟨bi, bo, c, e', sz, ti, ro, a, cap, q1, q2, q3, q4, q5⟩ := nds_row k.b1 hj' (kd := .i64)
    have w1 : IntKind.i64.wrap ((j : Int) + 1) = ((j + 1 : Nat) : Int) := by rw [wI64 (by omega) (by omega)]; omega
    by_cases hn : xs[j].1 = p
    · have e1 : idxE xs p = some j := by
        unfold idxE
        rw [List.findIdx?_eq_some_iff_getElem]
        exact ⟨hjm, by simpa using hn, fun x hx => by simpa using hI x _ hx (List.getElem?_eq_getElem (by omega))⟩
      have e2 : idxV xs p = j := by simp only [idxV, e1]
      have hn' : (xs[j].1 == p) = true := by simpa using hn
      rw [e2]
      generalize xs[j] = e at *
      (repeat' first
        | refine AWP.seq ?_
        | refine AWP.block ?_
        | (refine AWP.skip ?_; try dsimp only [thn, inBlk])
        | (refine AWP.exit ?_; try simp only [thn, inBlk, if_true, reduceIte, Nat.reduceEqDiff])
        | (refine AWP.ret ?_; try dsimp only [thn, inBlk])
        | (refine AWP.condT ?_ ?_; (focus (simp [go_sem, ci, hjm', q1, q2, q5, hn']; done)))
        | (refine AWP.condF ?_ ?_; (focus (simp [go_sem, ci, hjm', q1, q2, q5, hn']; done)))
        | (apply AWP.rE; (focus (simp [go_sem, ci, hjm', q1, q2, q5, hn']; exact ⟨rfl, rfl⟩)); try dsimp only [thn, inBlk])
        | fail)
      simp [bodyQ, thn, inBlk, resA, resV, go_sem]
    · have hn' : (xs[j].1 == p) = false := by simpa using hn
      generalize xs[j] = e at *
      (repeat' first
        | refine AWP.seq ?_
        | refine AWP.block ?_
        | (refine AWP.skip ?_; try dsimp only [thn, inBlk])
        | (refine AWP.exit ?_; try simp only [thn, inBlk, if_true, reduceIte, Nat.reduceEqDiff])
        | (refine AWP.ret ?_; try dsimp only [thn, inBlk])
        | (refine AWP.condT ?_ ?_; (focus (simp [go_sem, ci, hjm', q1, q2, q5, hn', w1]; done)))
        | (refine AWP.condF ?_ ?_; (focus (simp [go_sem, ci, hjm', q1, q2, q5, hn', w1]; done)))
        | (apply AWP.rE; (focus (simp [go_sem, ci, hjm', q1, q2, q5, hn', w1]; exact ⟨rfl, rfl⟩)); try dsimp only [thn, inBlk])
        | fail)
      refine ⟨xs.length - (j + 1), by omega, j + 1, by omega, rfl, by simp [go_sem], fun x e' hx hx' => ?_, rfl⟩
      by_cases e1 : x = j
      · subst e1; rw [hj'] at hx'; rw [← Option.some.inj hx']; exact hn
      · exact hI x e' (by omega) hx'
  · have hjm' : ¬ (j : Int) < xs.length := by omega
    have e1 : idxE xs p = none := by
      unfold idxE
      rw [List.findIdx?_eq_none_iff]
      intro x hx
      obtain ⟨q, hq⟩ := List.mem_iff_getElem?.1 hx
      simpa using hI q x (by have := (List.getElem?_eq_some_iff.1 hq).1; omega) hq
    have e2 : idxV xs p = -1 := by simp only [idxV, e1]
    rw [e2]
    (repeat' first
      | refine AWP.seq ?_
      | refine AWP.block ?_
      | (refine AWP.skip ?_; try dsimp only [thn, inBlk])
      | (refine AWP.exit ?_; try simp only [thn, inBlk, if_true, reduceIte, Nat.reduceEqDiff])
      | (refine AWP.ret ?_; try dsimp only [thn, inBlk])
      | (refine AWP.condT ?_ ?_; (focus (simp [go_sem, ci, hjm']; done)))
      | (refine AWP.condF ?_ ?_; (focus (simp [go_sem, ci, hjm']; done)))
      | (apply AWP.rE; (focus (simp [go_sem, ci, hjm']; exact ⟨rfl, rfl⟩)); try dsimp only [thn, inBlk])
      | fail)
    simp [bodyQ, thn, inBlk, resA, resV, go_sem]
theorem mode1 : ∀ m, m < 64 → ∀ b ∈ [1, 2, 4], ((m % 8 / b % 2 == 1) = ((m &&& b) != 0)) ∧ ((m / 8 / b % 2 == 1) = (((m / 8) &&& b) != 0)) := by decide
set_option maxHeartbeats 4000000 in
theorem rmay_calls {who : List UInt8} {x : List UInt8 × Nd} {a : Option Addr} {cap bit : Nat} (k : Own O h R) (hm : x.2.mode ≤ 63) (hb : bit ∈ [1, 2, 4]) :
    ACalls Tryz.prog 20 #[tx who, .agg (agN x a cap).toArray, .int .i64 bit] h fun r h' => r = .bool (may who x.2 bit) ∧ Own O h' R := by
  refine ACalls.of_awp (args := [tx who, .agg (agN x a cap).toArray, .int .i64 bit]) (n := 25) Tryz.func20 rfl rfl (by show 3 ≤ 25; omega) ?_
  obtain ⟨p, ⟨dir, own, mode, data⟩⟩ := x
  dsimp only at hm
  have k1 := k.push (.row [tx p, .bool dir, tx own, .int .i64 mode, .slice a data.length cap] 47 5 true false)
  have c1 := k1.obj
  have hb4 : bit ≤ 4 ∧ 1 ≤ bit := by simp at hb; omega
  obtain ⟨m1, m2⟩ := mode1 mode (by omega) bit hb
  have hr : may who ⟨dir, own, mode, data⟩ bit = (who == rootB || ((if who = own then mode / 8 else mode) &&& bit) != 0) := rfl
  rw [hr]
  by_cases h2 : who = rootB
  · have h2' : (who == [114, 111, 111, 116]) = true := by simpa [rootB] using h2
    have e : (who == rootB) = true := h2'
    rw [e, Bool.true_or]
    (repeat' first
      | refine AWP.seq ?_
      | refine AWP.block ?_
      | (refine AWP.skip ?_; try dsimp only [thn, inBlk])
      | (refine AWP.exit ?_; try simp only [thn, inBlk, if_true, reduceIte, Nat.reduceEqDiff])
      | (refine AWP.ret ?_; try dsimp only [thn, inBlk])
      | (refine AWP.condT ?_ ?_; (focus (simp [go_sem, h2']; done)))
      | (refine AWP.condF ?_ ?_; (focus (simp [go_sem, h2']; done)))
      | (apply AWP.rE; (focus (simp [go_sem, h2']; exact ⟨rfl, rfl⟩)); try dsimp only [thn, inBlk])
      | fail)
    simp [bodyQ, thn, inBlk, resA, resV, go_sem]
    exact k1.tail
  have h2' : (who == [114, 111, 111, 116]) = false := by simpa [rootB] using h2
  have e : (who == rootB) = false := h2'
  rw [e, Bool.false_or]
  have hb0 : ¬ bit = 0 := by omega
  have key : ∀ M : Nat, M < 64 → ∃ D : Nat, D = M / bit ∧ IntKind.i64.wrap ((M : Int).tdiv (bit : Int)) = (D : Int) ∧ IntKind.i64.wrap ((M : Int) / (bit : Int)) = (D : Int) ∧ (((D : Int).tmod 2 == 1) = (D % 2 == 1)) := fun M hM => by
    have hD : M / bit ≤ M := Nat.div_le_self _ _
    have e1 : ((M : Int) / (bit : Int)) = ((M / bit : Nat) : Int) := (Int.natCast_ediv M bit).symm
    have e2 : ((M : Int).tdiv (bit : Int)) = ((M / bit : Nat) : Int) := by rw [Int.tdiv_eq_ediv_of_nonneg (by omega)]; exact e1
    obtain ⟨D, hDD⟩ : ∃ D, D = M / bit := ⟨_, rfl⟩
    rw [← hDD] at hD e1 e2
    have wD : IntKind.i64.wrap (D : Int) = (D : Int) := wI64 (by omega) (by omega)
    refine ⟨D, hDD, by rw [e2, wD], by rw [e1, wD], ?_⟩
    rw [Int.tmod_eq_emod_of_nonneg (by omega), Bool.eq_iff_iff]
    simp; omega
  by_cases h1 : who = own
  · have h1' : (who == own) = true := by simpa using h1
    rw [if_pos h1, ← m2]
    obtain ⟨M, hM⟩ : ∃ M, M = mode / 8 := ⟨_, rfl⟩
    have wq : IntKind.i64.wrap ((mode : Int) / 8) = (M : Int) := by rw [wI64 (by omega) (by omega)]; omega
    obtain ⟨D, hD, d1, d2, d3⟩ := key M (by omega)
    rw [← hM, ← hD, ← d3]
    (repeat' first
      | refine AWP.seq ?_
      | refine AWP.block ?_
      | (refine AWP.skip ?_; try dsimp only [thn, inBlk])
      | (refine AWP.exit ?_; try simp only [thn, inBlk, if_true, reduceIte, Nat.reduceEqDiff])
      | (refine AWP.ret ?_; try dsimp only [thn, inBlk])
      | (refine AWP.condT ?_ ?_; (focus (simp [go_sem, h1', h2', c1, wq, hb0, d1, d2]; done)))
      | (refine AWP.condF ?_ ?_; (focus (simp [go_sem, h1', h2', c1, wq, hb0, d1, d2]; done)))
      | (apply AWP.rE; (focus (simp [go_sem, h1', h2', c1, wq, hb0, d1, d2]; exact ⟨rfl, rfl⟩)); try dsimp only [thn, inBlk])
      | fail)
    simp [bodyQ, thn, inBlk, resA, resV, go_sem]
    exact k1.tail
  · have h1' : (who == own) = false := by simpa using h1
    rw [if_neg h1, ← m1]
    obtain ⟨M, hM⟩ : ∃ M, M = mode % 8 := ⟨_, rfl⟩
    have wq : (mode : Int).tmod 8 = (M : Int) := by rw [Int.tmod_eq_emod_of_nonneg (by omega)]; omega
    obtain ⟨D, hD, d1, d2, d3⟩ := key M (by omega)
    rw [← hM, ← hD, ← d3]
    (repeat' first
      | refine AWP.seq ?_
      | refine AWP.block ?_
      | (refine AWP.skip ?_; try dsimp only [thn, inBlk])
      | (refine AWP.exit ?_; try simp only [thn, inBlk, if_true, reduceIte, Nat.reduceEqDiff])
      | (refine AWP.ret ?_; try dsimp only [thn, inBlk])
      | (refine AWP.condT ?_ ?_; (focus (simp [go_sem, h1', h2', c1, wq, hb0, d1, d2]; done)))
      | (refine AWP.condF ?_ ?_; (focus (simp [go_sem, h1', h2', c1, wq, hb0, d1, d2]; done)))
      | (apply AWP.rE; (focus (simp [go_sem, h1', h2', c1, wq, hb0, d1, d2]; exact ⟨rfl, rfl⟩)); try dsimp only [thn, inBlk])
      | fail)
    simp [bodyQ, thn, inBlk, resA, resV, go_sem]
    exact k1.tail
end
end L23
end

section
open Go Ab Go.Proofs
namespace L23
set_option autoImplicit false
set_option linter.unusedSimpArgs false
set_option linter.unusedVariables false

theorem comeF_top {T : TL} {who : List UInt8} : ∀ n i, comeF T who [47] n i = 0
  | 0, _ => rfl
  | n + 1, i => by rw [comeF, if_neg (by simp), comeF_top n]
structure RX (xs : TL) : Prop where
  md : ∀ x ∈ xs, x.2.mode ≤ 63
  ln : xs.length ≤ 1000
section
variable {O : Old} {h : AHeap} {R : List Chunk} {i : Nat} {xs : TL}
set_option maxHeartbeats 16000000 in
theorem rcome_calls {who p : List UInt8} {v : Value} (hX : RX xs) (k : Own O h (cell i (rrow v) :: nds v xs :: R)) (hp : p.length ≤ 100000) :
    ACalls Tryz.prog 40 #[ptr i, tx who, tx p] h fun r h' => r = .int .i64 (comeE xs who p) ∧ Own O h' (cell i (rrow v) :: nds v xs :: R) := by
  refine ACalls.of_awp (args := [ptr i, tx who, tx p]) (n := 56) Tryz.func40 rfl rfl (by show 3 ≤ 56; omega) ?_
  have hln := hX.ln
  (repeat' first
    | refine AWP.seq ?_
    | refine AWP.block ?_
    | (refine AWP.skip ?_; try dsimp only [thn, inBlk])
    | (refine AWP.exit ?_; try simp only [thn, inBlk, if_true, reduceIte, Nat.reduceEqDiff])
    | (refine AWP.ret ?_; try dsimp only [thn, inBlk])
    | (refine AWP.condT ?_ ?_; (focus (simp [go_sem]; done)))
    | (refine AWP.condF ?_ ?_; (focus (simp [go_sem]; done)))
    | (apply AWP.rE; (focus (simp [go_sem]; exact ⟨rfl, rfl⟩)); try dsimp only [thn, inBlk])
    | fail)
  refine AWP.callE (by simp [go_sem]; exact ⟨rfl, rfl, rfl, rfl, rfl⟩) (by kernel_rfl) ?_
  refine (rpath_calls (l := p) k hp).mono ?_
  rintro r h1 ⟨rfl, k1⟩
  cases hpb : pathB p
  · have e : comeE xs who p = 30 := by simp [comeE, hpb]
    rw [e]
    refine awpL_restE (by simp [go_sem]; exact ⟨rfl, rfl⟩) ?_; try dsimp only [thn, inBlk]
    (repeat' first
      | refine AWP.seq ?_
      | refine AWP.block ?_
      | (refine AWP.skip ?_; try dsimp only [thn, inBlk])
      | (refine AWP.exit ?_; try simp only [thn, inBlk, if_true, reduceIte, Nat.reduceEqDiff])
      | (refine AWP.ret ?_; try dsimp only [thn, inBlk])
      | (refine AWP.condT ?_ ?_; (focus (simp [go_sem]; done)))
      | (refine AWP.condF ?_ ?_; (focus (simp [go_sem]; done)))
      | (apply AWP.rE; (focus (simp [go_sem]; exact ⟨rfl, rfl⟩)); try dsimp only [thn, inBlk])
      | fail)
    simp [bodyQ, thn, inBlk, resA, resV, go_sem]
    exact k1
  have e : comeE xs who p = comeF xs who p p.length 0 := by simp [comeE, hpb]
  rw [e]
  refine awpL_restE (by simp [go_sem]; exact ⟨rfl, rfl⟩) ?_; try dsimp only [thn, inBlk]
  (repeat' first
    | refine AWP.seq ?_
    | refine AWP.block ?_
    | (refine AWP.skip ?_; try dsimp only [thn, inBlk])
    | (refine AWP.exit ?_; try simp only [thn, inBlk, if_true, reduceIte, Nat.reduceEqDiff])
    | (refine AWP.ret ?_; try dsimp only [thn, inBlk])
    | (refine AWP.condT ?_ ?_; (focus (simp [go_sem]; done)))
    | (refine AWP.condF ?_ ?_; (focus (simp [go_sem]; done)))
    | (apply AWP.rE; (focus (simp [go_sem]; exact ⟨rfl, rfl⟩)); try dsimp only [thn, inBlk])
    | fail)
  refine AWP.loopR [0, 1, 2, 7] (fun m s h' => ∃ j : Nat, j ≤ p.length ∧ m = p.length - j ∧ s = ⟨56, [(0, ptr i), (1, tx who), (2, tx p), (7, .int .i64 j)]⟩ ∧ comeF xs who p p.length 0 = comeF xs who p (p.length - j) j ∧ Own O h' (cell i (rrow v) :: nds v xs :: R)) ?_ ?_
  · exact ⟨_, 0, by omega, rfl, by simp [go_sem], rfl, k1⟩
  rintro m s hB ⟨j, hj, rfl, rfl, hF, kB⟩
  by_cases hjm : j < p.length
  rotate_left
  · have hjm' : ¬ (j : Int) < p.length := by omega
    have e2 : comeF xs who p p.length 0 = 0 := by rw [hF, show p.length - j = 0 by omega, comeF]
    rw [e2]
    (repeat' first
      | refine AWP.seq ?_
      | refine AWP.block ?_
      | (refine AWP.skip ?_; try dsimp only [thn, inBlk])
      | (refine AWP.exit ?_; try simp only [thn, inBlk, if_true, reduceIte, Nat.reduceEqDiff])
      | (refine AWP.ret ?_; try dsimp only [thn, inBlk])
      | (refine AWP.condT ?_ ?_; (focus (simp [go_sem, hjm']; done)))
      | (refine AWP.condF ?_ ?_; (focus (simp [go_sem, hjm']; done)))
      | (apply AWP.rE; (focus (simp [go_sem, hjm']; exact ⟨rfl, rfl⟩)); try dsimp only [thn, inBlk])
      | fail)
    simp [bodyQ, thn, inBlk, resA, resV, go_sem]
    exact kB
  have hjm' : (j : Int) < p.length := by omega
  by_cases htop : p = [47]
  · have htop' : (p != [47]) = false := by simpa using htop
    have htop2 : (p == [47]) = true := by simpa using htop
    have e2 : comeF xs who p p.length 0 = 0 := by rw [htop]; exact comeF_top _ _
    rw [e2]
    (repeat' first
      | refine AWP.seq ?_
      | refine AWP.block ?_
      | (refine AWP.skip ?_; try dsimp only [thn, inBlk])
      | (refine AWP.exit ?_; try simp only [thn, inBlk, if_true, reduceIte, Nat.reduceEqDiff])
      | (refine AWP.ret ?_; try dsimp only [thn, inBlk])
      | (refine AWP.condT ?_ ?_; (focus (simp [go_sem, hjm', htop', htop2]; done)))
      | (refine AWP.condF ?_ ?_; (focus (simp [go_sem, hjm', htop', htop2]; done)))
      | (apply AWP.rE; (focus (simp [go_sem, hjm', htop', htop2]; exact ⟨rfl, rfl⟩)); try dsimp only [thn, inBlk])
      | fail)
    simp [bodyQ, thn, inBlk, resA, resV, go_sem]
    exact kB
  have htop' : (p != [47]) = true := by simpa using htop
  have htop2 : (p == [47]) = false := by simpa using htop
  have w1 : IntKind.i64.wrap ((j : Int) + 1) = ((j + 1 : Nat) : Int) := by rw [wI64 (by omega) (by omega)]; omega
  have x1 : indexP Tryz.prog 9 (tx p) (.int .i64 (j : Int)) = some (.int .u8 p[j].toNat) := str_index Tryz.underlying9 hjm
  have hc : p[j]? = some p[j] := List.getElem?_eq_getElem hjm
  obtain ⟨n, hn⟩ : ∃ n, p.length - j = n + 1 := ⟨p.length - j - 1, by omega⟩
  have hn2 : p.length - (j + 1) = n := by omega
  rw [hn, comeF, hc] at hF
  generalize p[j] = c at x1 hc hF
  by_cases h47 : c = 47
  rotate_left
  · have h47' : ((c.toNat : Int) != 47) = true := by have := neB (d := 47) h47; simp at this ⊢; omega
    rw [if_neg (by intro q; exact h47 (Option.some.inj q.1))] at hF
    (repeat' first
      | refine AWP.seq ?_
      | refine AWP.block ?_
      | (refine AWP.skip ?_; try dsimp only [thn, inBlk])
      | (refine AWP.exit ?_; try simp only [thn, inBlk, if_true, reduceIte, Nat.reduceEqDiff])
      | (refine AWP.ret ?_; try dsimp only [thn, inBlk])
      | (refine AWP.condT ?_ ?_; (focus (simp [go_sem, hjm', htop', htop2, x1, h47', w1]; done)))
      | (refine AWP.condF ?_ ?_; (focus (simp [go_sem, hjm', htop', htop2, x1, h47', w1]; done)))
      | (apply AWP.rE; (focus (simp [go_sem, hjm', htop', htop2, x1, h47', w1]; exact ⟨rfl, rfl⟩)); try dsimp only [thn, inBlk])
      | fail)
    exact ⟨p.length - (j + 1), by omega, j + 1, by omega, rfl, by simp [go_sem], by rw [hF, hn2], kB⟩
  have h47' : ((c.toNat : Int) != 47) = false := by rw [h47]; rfl
  rw [if_pos ⟨by rw [h47], htop⟩] at hF
  obtain ⟨up, hup⟩ : ∃ up, up = p.take (max j 1) := ⟨_, rfl⟩
  rw [← hup] at hF
  have s1 : ∀ hh, sliceR Tryz.prog hh 9 (tx p) none (some (.int .i64 (j : Int))) none = some (tx (p.take j)) := fun hh => by
    have := str_slice (P := Tryz.prog) (h := hh) Tryz.underlying9 (l := p) (lo := 0) (hi := j) (a := none) (u := some (.int .i64 (j : Int))) (by omega) (by omega) (.inl ⟨rfl, rfl⟩) (.inr ⟨.i64, rfl⟩)
    exact this
  (repeat' first
    | refine AWP.seq ?_
    | refine AWP.block ?_
    | (refine AWP.skip ?_; try dsimp only [thn, inBlk])
    | (refine AWP.exit ?_; try simp only [thn, inBlk, if_true, reduceIte, Nat.reduceEqDiff])
    | (refine AWP.ret ?_; try dsimp only [thn, inBlk])
    | (refine AWP.condT ?_ ?_; (focus (simp [go_sem, hjm', htop', htop2, x1, h47', s1]; done)))
    | (refine AWP.condF ?_ ?_; (focus (simp [go_sem, hjm', htop', htop2, x1, h47', s1]; done)))
    | (apply AWP.rE; (focus (simp [go_sem, hjm', htop', htop2, x1, h47', s1]; exact ⟨rfl, rfl⟩)); try dsimp only [thn, inBlk])
    | fail)
  refine AWP.cutT [0, 1, 2, 7, 8] (fun s h' => s = ⟨56, [(0, ptr i), (1, tx who), (2, tx p), (7, .int .i64 j), (8, tx up)]⟩ ∧ h' = hB) ?_ ?_
  · by_cases h0 : j = 0
    · subst h0
      have hu : up = [47] := by
        rw [hup]
        rcases p with _ | ⟨d, p⟩
        · simp at hjm
        · simp at hc; simp [hc, h47]
      rw [hu]
      (repeat' first
        | refine AWP.seq ?_
        | refine AWP.block ?_
        | (refine AWP.skip ?_; try dsimp only [thn, inBlk])
        | (refine AWP.exit ?_; try simp only [thn, inBlk, if_true, reduceIte, Nat.reduceEqDiff])
        | (refine AWP.ret ?_; try dsimp only [thn, inBlk])
        | (refine AWP.condT ?_ ?_; (focus (simp [go_sem]; done)))
        | (refine AWP.condF ?_ ?_; (focus (simp [go_sem]; done)))
        | (apply AWP.rE; (focus (simp [go_sem]; exact ⟨rfl, rfl⟩)); try dsimp only [thn, inBlk])
        | fail)
      exact ⟨by simp [go_sem], rfl⟩
    · have h0' : ((j : Int) == 0) = false := by simp; omega
      have hu : up = p.take j := by rw [hup, show max j 1 = j by omega]
      rw [hu]
      (repeat' first
        | refine AWP.seq ?_
        | refine AWP.block ?_
        | (refine AWP.skip ?_; try dsimp only [thn, inBlk])
        | (refine AWP.exit ?_; try simp only [thn, inBlk, if_true, reduceIte, Nat.reduceEqDiff])
        | (refine AWP.ret ?_; try dsimp only [thn, inBlk])
        | (refine AWP.condT ?_ ?_; (focus (simp [go_sem, h0']; done)))
        | (refine AWP.condF ?_ ?_; (focus (simp [go_sem, h0']; done)))
        | (apply AWP.rE; (focus (simp [go_sem, h0']; exact ⟨rfl, rfl⟩)); try dsimp only [thn, inBlk])
        | fail)
      exact ⟨by simp [go_sem], rfl⟩
  rintro s hC ⟨rfl, rfl⟩
  (repeat' first
    | refine AWP.seq ?_
    | refine AWP.block ?_
    | (refine AWP.skip ?_; try dsimp only [thn, inBlk])
    | (refine AWP.exit ?_; try simp only [thn, inBlk, if_true, reduceIte, Nat.reduceEqDiff])
    | (refine AWP.ret ?_; try dsimp only [thn, inBlk])
    | (refine AWP.condT ?_ ?_; (focus (simp [go_sem]; done)))
    | (refine AWP.condF ?_ ?_; (focus (simp [go_sem]; done)))
    | (apply AWP.rE; (focus (simp [go_sem]; exact ⟨rfl, rfl⟩)); try dsimp only [thn, inBlk])
    | fail)
  refine AWP.callE (by simp [go_sem]; exact ⟨rfl, rfl, rfl, rfl, rfl⟩) (by kernel_rfl) ?_
  refine (rat_calls (p := up) kB (by omega)).mono ?_
  rintro r h5 ⟨rfl, rfl⟩
  have ci := kB.obj
  cases hi : idxE xs up with
  | none =>
    obtain ⟨g1, g2⟩ := idx_none hi
    rw [g1] at hF
    dsimp only at hF
    rw [g2, hF]
    refine awpL_restE (by simp [go_sem]; exact ⟨rfl, rfl⟩) ?_; try dsimp only [thn, inBlk]
    (repeat' first
      | refine AWP.seq ?_
      | refine AWP.block ?_
      | (refine AWP.skip ?_; try dsimp only [thn, inBlk])
      | (refine AWP.exit ?_; try simp only [thn, inBlk, if_true, reduceIte, Nat.reduceEqDiff])
      | (refine AWP.ret ?_; try dsimp only [thn, inBlk])
      | (refine AWP.condT ?_ ?_; (focus (simp [go_sem]; done)))
      | (refine AWP.condF ?_ ?_; (focus (simp [go_sem]; done)))
      | (apply AWP.rE; (focus (simp [go_sem]; exact ⟨rfl, rfl⟩)); try dsimp only [thn, inBlk])
      | fail)
    simp [bodyQ, thn, inBlk, resA, resV, go_sem]
    exact kB
  | some q =>
    obtain ⟨nd, g1, g2, g3⟩ := idx_some hi
    rw [g2] at hF
    dsimp only at hF
    rw [g3]
    have hq0 : ¬ (q : Int) < 0 := by omega
    obtain ⟨bi, bo, cc, e', sz, ti, ro, a, cap, q1, q2, q3, q4, q5⟩ := nds_row kB.b1 g1 (kd := .i64)
    have q6 : cc[bo + 1]? = some (.bool nd.dir) := by
      have := congrArg (·[1]?) q4
      simp only [List.getElem?_take, List.getElem?_drop] at this
      simpa [agN] using this
    have hmd := hX.md _ (List.mem_of_getElem? g1)
    obtain ⟨va, vc, rfl⟩ := kB.b1.grecs_val
    cases hdir : nd.dir
    · rw [if_pos hdir] at hF
      rw [hdir] at q6
      rw [hF]
      refine awpL_restE (by simp [go_sem]; exact ⟨rfl, rfl⟩) ?_; try dsimp only [thn, inBlk]
      (repeat' first
        | refine AWP.seq ?_
        | refine AWP.block ?_
        | (refine AWP.skip ?_; try dsimp only [thn, inBlk])
        | (refine AWP.exit ?_; try simp only [thn, inBlk, if_true, reduceIte, Nat.reduceEqDiff])
        | (refine AWP.ret ?_; try dsimp only [thn, inBlk])
        | (refine AWP.condT ?_ ?_; (focus (simp [go_sem, hq0, ci, q1, q2, q6]; done)))
        | (refine AWP.condF ?_ ?_; (focus (simp [go_sem, hq0, ci, q1, q2, q6]; done)))
        | (apply AWP.rE; (focus (simp [go_sem, hq0, ci, q1, q2, q6]; exact ⟨rfl, rfl⟩)); try dsimp only [thn, inBlk])
        | fail)
      simp [bodyQ, thn, inBlk, resA, resV, go_sem]
      exact kB
    rw [if_neg (by rw [hdir]; decide)] at hF
    rw [hdir] at q6
    refine awpL_restE (by simp [go_sem]; exact ⟨rfl, rfl⟩) ?_; try dsimp only [thn, inBlk]
    (repeat' first
      | refine AWP.seq ?_
      | refine AWP.block ?_
      | (refine AWP.skip ?_; try dsimp only [thn, inBlk])
      | (refine AWP.exit ?_; try simp only [thn, inBlk, if_true, reduceIte, Nat.reduceEqDiff])
      | (refine AWP.ret ?_; try dsimp only [thn, inBlk])
      | (refine AWP.condT ?_ ?_; (focus (simp [go_sem, hq0, ci, q1, q2, q6]; done)))
      | (refine AWP.condF ?_ ?_; (focus (simp [go_sem, hq0, ci, q1, q2, q6]; done)))
      | (apply AWP.rE; (focus (simp [go_sem, hq0, ci, q1, q2, q6]; exact ⟨rfl, rfl⟩)); try dsimp only [thn, inBlk])
      | fail)
    refine AWP.callE (by simp [go_sem, ci, q1, q2, q3, q4]; exact ⟨rfl, rfl, rfl, rfl, rfl⟩) (by kernel_rfl) ?_
    refine (rmay_calls (who := who) (x := (up, nd)) (a := a) (cap := cap) (bit := 1) kB hmd (by simp)).mono ?_
    rintro r h7 ⟨rfl, k7⟩
    dsimp only
    cases hmay : may who nd 1
    · rw [if_pos hmay] at hF
      rw [hF]
      refine awpL_restE (by simp [go_sem]; exact ⟨rfl, rfl⟩) ?_; try dsimp only [thn, inBlk]
      (repeat' first
        | refine AWP.seq ?_
        | refine AWP.block ?_
        | (refine AWP.skip ?_; try dsimp only [thn, inBlk])
        | (refine AWP.exit ?_; try simp only [thn, inBlk, if_true, reduceIte, Nat.reduceEqDiff])
        | (refine AWP.ret ?_; try dsimp only [thn, inBlk])
        | (refine AWP.condT ?_ ?_; (focus (simp [go_sem]; done)))
        | (refine AWP.condF ?_ ?_; (focus (simp [go_sem]; done)))
        | (apply AWP.rE; (focus (simp [go_sem]; exact ⟨rfl, rfl⟩)); try dsimp only [thn, inBlk])
        | fail)
      simp [bodyQ, thn, inBlk, resA, resV, go_sem]
      exact k7
    · rw [if_neg (by rw [hmay]; decide)] at hF
      refine awpL_restE (by simp [go_sem]; exact ⟨rfl, rfl⟩) ?_; try dsimp only [thn, inBlk]
      (repeat' first
        | refine AWP.seq ?_
        | refine AWP.block ?_
        | (refine AWP.skip ?_; try dsimp only [thn, inBlk])
        | (refine AWP.exit ?_; try simp only [thn, inBlk, if_true, reduceIte, Nat.reduceEqDiff])
        | (refine AWP.ret ?_; try dsimp only [thn, inBlk])
        | (refine AWP.condT ?_ ?_; (focus (simp [go_sem, w1]; done)))
        | (refine AWP.condF ?_ ?_; (focus (simp [go_sem, w1]; done)))
        | (apply AWP.rE; (focus (simp [go_sem, w1]; exact ⟨rfl, rfl⟩)); try dsimp only [thn, inBlk])
        | fail)
      exact ⟨p.length - (j + 1), by omega, j + 1, by omega, rfl, by simp [go_sem], by rw [hF, hn2], k7⟩
theorem rfind_calls {who p : List UInt8} {v : Value} (hX : RX xs) (k : Own O h (cell i (rrow v) :: nds v xs :: R)) (hp : p.length ≤ 100000) :
    ACalls Tryz.prog 49 #[ptr i, tx who, tx p] h fun r h' => r = .tuple #[.int .i64 (if findE xs who p = 0 then idxV xs p else -1), .int .i64 (findE xs who p)] ∧ Own O h' (cell i (rrow v) :: nds v xs :: R) := by
  refine ACalls.of_awp (args := [ptr i, tx who, tx p]) (n := 23) Tryz.func49 rfl rfl (by show 3 ≤ 23; omega) ?_
  have hln := hX.ln
  (repeat' first
    | refine AWP.seq ?_
    | refine AWP.block ?_
    | (refine AWP.skip ?_; try dsimp only [thn, inBlk])
    | (refine AWP.exit ?_; try simp only [thn, inBlk, if_true, reduceIte, Nat.reduceEqDiff])
    | (refine AWP.ret ?_; try dsimp only [thn, inBlk])
    | (refine AWP.condT ?_ ?_; (focus (simp [go_sem]; done)))
    | (refine AWP.condF ?_ ?_; (focus (simp [go_sem]; done)))
    | (apply AWP.rE; (focus (simp [go_sem]; exact ⟨rfl, rfl⟩)); try dsimp only [thn, inBlk])
    | fail)
  refine AWP.callE (by simp [go_sem]; exact ⟨rfl, rfl, rfl, rfl, rfl⟩) (by kernel_rfl) ?_
  refine (rcome_calls (who := who) (p := p) hX k hp).mono ?_
  rintro r h1 ⟨rfl, k1⟩
  unfold findE
  generalize comeE xs who p = z at *
  by_cases hz : z = 0
  rotate_left
  · have hz' : (z != 0) = true := by simpa using hz
    simp only [if_neg hz]
    refine awpL_restE (by simp [go_sem]; exact ⟨rfl, rfl⟩) ?_; try dsimp only [thn, inBlk]
    (repeat' first
      | refine AWP.seq ?_
      | refine AWP.block ?_
      | (refine AWP.skip ?_; try dsimp only [thn, inBlk])
      | (refine AWP.exit ?_; try simp only [thn, inBlk, if_true, reduceIte, Nat.reduceEqDiff])
      | (refine AWP.ret ?_; try dsimp only [thn, inBlk])
      | (refine AWP.condT ?_ ?_; (focus (simp [go_sem, hz']; done)))
      | (refine AWP.condF ?_ ?_; (focus (simp [go_sem, hz']; done)))
      | (apply AWP.rE; (focus (simp [go_sem, hz']; exact ⟨rfl, rfl⟩)); try dsimp only [thn, inBlk])
      | fail)
    simp [bodyQ, thn, inBlk, resA, resV, go_sem]
    exact k1
  subst hz
  refine awpL_restE (by simp [go_sem]; exact ⟨rfl, rfl⟩) ?_; try dsimp only [thn, inBlk]
  (repeat' first
    | refine AWP.seq ?_
    | refine AWP.block ?_
    | (refine AWP.skip ?_; try dsimp only [thn, inBlk])
    | (refine AWP.exit ?_; try simp only [thn, inBlk, if_true, reduceIte, Nat.reduceEqDiff])
    | (refine AWP.ret ?_; try dsimp only [thn, inBlk])
    | (refine AWP.condT ?_ ?_; (focus (simp [go_sem]; done)))
    | (refine AWP.condF ?_ ?_; (focus (simp [go_sem]; done)))
    | (apply AWP.rE; (focus (simp [go_sem]; exact ⟨rfl, rfl⟩)); try dsimp only [thn, inBlk])
    | fail)
  refine AWP.callE (by simp [go_sem]; exact ⟨rfl, rfl, rfl, rfl, rfl⟩) (by kernel_rfl) ?_
  refine (rat_calls (p := p) k1 (by omega)).mono ?_
  rintro r h5 ⟨rfl, rfl⟩
  cases hi : idxE xs p with
  | none =>
    obtain ⟨g1, g2⟩ := idx_none hi
    rw [g1, g2]
    refine awpL_restE (by simp [go_sem]; exact ⟨rfl, rfl⟩) ?_; try dsimp only [thn, inBlk]
    (repeat' first
      | refine AWP.seq ?_
      | refine AWP.block ?_
      | (refine AWP.skip ?_; try dsimp only [thn, inBlk])
      | (refine AWP.exit ?_; try simp only [thn, inBlk, if_true, reduceIte, Nat.reduceEqDiff])
      | (refine AWP.ret ?_; try dsimp only [thn, inBlk])
      | (refine AWP.condT ?_ ?_; (focus (simp [go_sem]; done)))
      | (refine AWP.condF ?_ ?_; (focus (simp [go_sem]; done)))
      | (apply AWP.rE; (focus (simp [go_sem]; exact ⟨rfl, rfl⟩)); try dsimp only [thn, inBlk])
      | fail)
    simp [bodyQ, thn, inBlk, resA, resV, go_sem]
    exact k1
  | some q =>
    obtain ⟨nd, g1, g2, g3⟩ := idx_some hi
    have hq0 : ¬ (q : Int) < 0 := by omega
    rw [g2, g3]
    refine awpL_restE (by simp [go_sem]; exact ⟨rfl, rfl⟩) ?_; try dsimp only [thn, inBlk]
    (repeat' first
      | refine AWP.seq ?_
      | refine AWP.block ?_
      | (refine AWP.skip ?_; try dsimp only [thn, inBlk])
      | (refine AWP.exit ?_; try simp only [thn, inBlk, if_true, reduceIte, Nat.reduceEqDiff])
      | (refine AWP.ret ?_; try dsimp only [thn, inBlk])
      | (refine AWP.condT ?_ ?_; (focus (simp [go_sem, hq0]; done)))
      | (refine AWP.condF ?_ ?_; (focus (simp [go_sem, hq0]; done)))
      | (apply AWP.rE; (focus (simp [go_sem, hq0]; exact ⟨rfl, rfl⟩)); try dsimp only [thn, inBlk])
      | fail)
    simp [bodyQ, thn, inBlk, resA, resV, go_sem]
    exact k1
end
end L23
end

section
open Go Ab Go.Proofs
namespace L23
set_option autoImplicit false
set_option linter.unusedSimpArgs false
set_option linter.unusedVariables false

theorem lt_trich : ∀ (a b : List UInt8), a < b ∨ a = b ∨ b < a
  | [], [] => .inr (.inl rfl)
  | [], _ :: _ => .inl (by simp)
  | _ :: _, [] => .inr (.inr (by simp))
  | x :: a, y :: b => by
    simp only [List.cons_lt_cons_iff]
    have hx : x < y ∨ x = y ∨ y < x := by
      rcases Nat.lt_trichotomy x.toNat y.toNat with g | g | g
      · exact .inl (UInt8.lt_iff_toNat_lt.2 g)
      · exact .inr (.inl (UInt8.toNat_inj.1 g))
      · exact .inr (.inr (UInt8.lt_iff_toNat_lt.2 g))
    rcases lt_trich a b with h | h | h <;> rcases hx with g | g | g <;> simp [h, g]
theorem strA_gtr {a b : List UInt8} : strA .gtr ⟨a.toArray⟩ ⟨b.toArray⟩ = some (.bool (decide (b < a))) := by
  simp only [strA, ByteArray.toList_mk, bytesLess_lt]
  congr 2
  rcases lt_trich a b with h | h | h
  · have := List.lt_asymm h
    simp [h, this]
  · subst h; simp
  · have h1 := List.lt_asymm h
    have h2 : a ≠ b := by rintro rfl; exact List.lt_irrefl _ h
    simp [h, h1, h2]
theorem strA_lss {a b : List UInt8} : strA .lss ⟨a.toArray⟩ ⟨b.toArray⟩ = some (.bool (decide (a < b))) := by
  simp only [strA, ByteArray.toList_mk, bytesLess_lt]
/-- A record of a flat list is set. -/
theorem flat_setL {sz : Nat} {l : List (List Value)} (hl : ∀ x ∈ l, x.length = sz) {j : Nat} (hj : j < l.length) {rs : List Value} (hr : rs.length = sz) :
    setL l.flatten (j * sz) rs = (l.set j rs).flatten := by
  have e1 : l = l.take j ++ l[j] :: l.drop (j + 1) := by rw [List.getElem_cons_drop, List.take_append_drop]
  have e2 : (l.take j).flatten.length = j * sz := by
    rw [flat_length (fun x hx => hl x (List.mem_of_mem_take hx)), List.length_take]
    rw [Nat.min_eq_left (by omega)]
  have e3 : l[j].length = sz := hl _ (List.getElem_mem hj)
  have e4 : (l.take j).length = j := by rw [List.length_take]; omega
  have e5 : l.flatten = (l.take j).flatten ++ (l[j] ++ (l.drop (j + 1)).flatten) := by
    conv => lhs; rw [e1]
    rw [List.flatten_append, List.flatten_cons]
  have e6 : l.set j rs = l.take j ++ rs :: l.drop (j + 1) := by
    rw [List.set_eq_take_append_cons_drop, if_pos hj]
  rw [setL_eq _ _ _ (by rw [e5]; simp only [List.length_append]; omega), e6, List.flatten_append, List.flatten_cons, e5]
  rw [List.take_append_of_le_length (by omega), List.take_of_length_le (by omega)]
  have e7 : j * sz + rs.length = (l.take j).flatten.length + l[j].length := by omega
  rw [e7, List.append_assoc, ← List.append_assoc ((l.take j).flatten) l[j], ← List.length_append, List.drop_left]
/-! ### Pieces in the midst -/
section
variable {O : Old} {h : AHeap} {R L L' A : List Chunk} {X : Chunk}
theorem perm_front : (A ++ (L ++ R)).Perm (L ++ (A ++ R)) := by
  rw [← List.append_assoc, ← List.append_assoc]
  exact List.perm_append_comm.append_right R
theorem Own.sublist (s : L'.Sublist L) : ∀ {R : List Chunk}, Own O h (L ++ R) → Own O h (L' ++ R) := by
  induction s with
  | slnil => exact fun k => k
  | cons a s ih => exact fun k => ih k.tail
  | cons_cons a s ih => exact fun {R} k => (ih (R := a :: R) (k.perm List.perm_middle.symm)).perm List.perm_middle
theorem Own.subIn (s : L'.Sublist L) (k : Own O h (A ++ (L ++ R))) : Own O h (A ++ (L' ++ R)) :=
  (Own.sublist s (k.perm perm_front)).perm perm_front
theorem Own.addIn (k : Own O h (X :: (A ++ (L ++ R)))) : Own O h (A ++ ((L ++ [X]) ++ R)) := by
  have e : (L ++ [X]) ++ R = L ++ (X :: R) := by simp
  rw [e]
  refine k.perm ?_
  rw [← List.append_assoc A L, ← List.append_assoc A L]
  exact List.perm_middle.symm
theorem Own.toR (k : Own O h (X :: (A ++ (L ++ R)))) : Own O h (A ++ (L ++ (X :: R))) := by
  refine k.perm ?_
  rw [← List.append_assoc A L, ← List.append_assoc A L]
  exact List.perm_middle.symm
theorem Own.setIn {j : Nat} {Y : Chunk} (hj : L[j]? = some Y) (k : Own O h (X :: (A ++ (L ++ R)))) : Own O h (A ++ (L.set j X ++ R)) := by
  have k1 : Own O h ([X] ++ A ++ (L ++ R)) := by simpa using k
  have k2 := ((k1.perm perm_front).mem hj).tail
  have k3 : Own O h (L.eraseIdx j ++ (X :: (A ++ R))) := by simpa using k2
  have k4 := Own.mem_back hj (k3.perm List.perm_middle)
  exact k4.perm perm_front
end

theorem Own.outR {O : Old} {h : AHeap} {R : List Chunk} {A L : List Chunk} {X : Chunk} (k : Own O h (A ++ (L ++ (X :: R)))) : Own O h (X :: (A ++ (L ++ R))) := by
  refine k.perm ?_
  rw [← List.append_assoc A L, ← List.append_assoc A L]
  exact List.perm_middle
/-! ### Nodes with the places of their data -/
abbrev NZ := (List UInt8 × Nd) × (Option Addr × Nat)
abbrev nz (z : NZ) : List Value := ncells z.1 z.2
abbrev sb (z : NZ) : Chunk := ndat z.1 z.2
abbrev nzs (v : Value) (zs : List NZ) : Chunk := os 47 5 v zs.length (zs.map nz).flatten
theorem zip_gcells : ∀ (zs : List NZ), gcells ncells (zs.map (·.1)) (zs.map (·.2)) = zs.map nz
  | [] => rfl
  | z :: zs => by have := zip_gcells zs; simp only [gcells, List.map_cons, List.zipWith_cons_cons] at this ⊢; rw [this]
theorem zip_gsubs : ∀ (zs : List NZ), gsubs ndat (zs.map (·.1)) (zs.map (·.2)) = zs.map sb
  | [] => rfl
  | z :: zs => by have := zip_gsubs zs; simp only [gsubs, List.map_cons, List.zipWith_cons_cons] at this ⊢; rw [this]
theorem nds_zs {O : Old} {h : AHeap} {R : List Chunk} {v : Value} {xs : TL} : Own O h (nds v xs :: R) ↔ ∃ zs : List NZ, zs.map (·.1) = xs ∧ Own O h (nzs v zs :: (zs.map sb ++ R)) := by
  constructor
  · intro k
    obtain ⟨ws, hw, k0⟩ := grecs_iff.1 k
    have e1 : (xs.zip ws).map (·.1) = xs := by rw [List.map_fst_zip (by omega)]
    have e2 : (xs.zip ws).map (·.2) = ws := by rw [List.map_snd_zip (by omega)]
    refine ⟨xs.zip ws, e1, ?_⟩
    have h1 := zip_gcells (xs.zip ws)
    have h2 := zip_gsubs (xs.zip ws)
    rw [e1, e2] at h1 h2
    show Own O h (os 47 5 v (xs.zip ws).length ((xs.zip ws).map nz).flatten :: ((xs.zip ws).map sb ++ R))
    rw [← h1, ← h2, show (xs.zip ws).length = xs.length by simp; omega]
    exact k0
  · rintro ⟨zs, rfl, k0⟩
    refine grecs_iff.2 ⟨zs.map (·.2), by simp, ?_⟩
    rw [zip_gcells, zip_gsubs, List.length_map]
    exact k0
theorem nz_all {zs : List NZ} : ∀ x ∈ zs.map nz, x.length = 5 := fun x hx => by
  obtain ⟨a, _, rfl⟩ := List.mem_map.1 hx; rfl
theorem nz_at {O : Old} {h : AHeap} {R : List Chunk} {v : Value} {zs : List NZ} (k : Own O h (nzs v zs :: R)) {j : Nat} {z : NZ} (hj : zs[j]? = some z) {kd : IntKind} :
    ∃ i off c e' sz' ti ro, indexAddrP Tryz.prog 39 v (.int kd j) = some (.pointer (some ⟨i, off, none⟩)) ∧ h.obj i = some (.row c e' sz' ti ro) ∧ off + 5 ≤ c.length ∧ (c.drop off).take 5 = nz z ∧ ∀ f y, (nz z)[f]? = some y → c[off + f]? = some y := by
  obtain ⟨hjl, hje⟩ := List.getElem?_eq_some_iff.1 hj
  obtain ⟨i, off, c, e', sz', ti, ro, q1, q2, q3, q4, q5⟩ := k.os_sl.record (P := Tryz.prog) (t := 39) (l := zs.map nz) Tryz.underlying39 tsz47 nz_all (by simp) hjl (kd := kd)
  rw [List.getElem_map, hje] at q4 q5
  exact ⟨i, off, c, e', sz', ti, ro, q1, q2, q3, q4, q5⟩
theorem nz_flat_len {zs : List NZ} : (zs.map nz).flatten.length = zs.length * 5 := by
  rw [flat_length nz_all, List.length_map]
theorem nz_ok (z : NZ) : (nz z).all okCell = true := rfl
theorem nz_flat_ok {zs : List NZ} : (zs.map nz).flatten.all okCell = true := by
  rw [List.all_eq_true]
  intro x hx
  obtain ⟨y, hy, hxy⟩ := List.mem_flatten.1 hx
  obtain ⟨e, _, rfl⟩ := List.mem_map.1 hy
  exact List.all_eq_true.1 (nz_ok e) x hxy
theorem nzs_app {O : Old} {h : AHeap} {R : List Chunk} {v : Value} {l : List NZ} {x : NZ} (k : Own O h (os 47 5 v (l.length + 1) ((l.map nz).flatten ++ nz x) :: R)) : Own O h (nzs v (l ++ [x]) :: R) := by
  simpa [nzs] using k
theorem buildN1 {id : Nat} {z : NZ} : buildSliceA Tryz.prog id 39 1 [(0, .agg (nz z).toArray)] = some (.slice (some ⟨id, 0, none⟩) 1 1, .row (nz z) 47 5 true false) := by
  simp [buildSliceA, zeros, Instr.fill, go_sem]
theorem buildN0 {id : Nat} : buildSliceA Tryz.prog id 39 0 [] = some (.slice (some ⟨id, 0, none⟩) 0 0, .row [] 47 5 true false) := by
  simp [buildSliceA, zeros, Instr.fill, go_sem]
def insZ (e : NZ) : List NZ → List NZ
  | [] => [e]
  | x :: xs => if e.1.1 < x.1.1 then e :: x :: xs else x :: insZ e xs
def insX (e : List UInt8 × Nd) : TL → TL
  | [] => [e]
  | x :: xs => if e.1 < x.1 then e :: x :: xs else x :: insX e xs
theorem insZ_map {e : NZ} : ∀ {zs : List NZ}, (insZ e zs).map (·.1) = insX e.1 (zs.map (·.1))
  | [] => rfl
  | z :: zs => by
    rw [insZ, List.map_cons, insX]
    split
    · rfl
    · rw [List.map_cons, insZ_map]
theorem insZ_perm {e : NZ} : ∀ {zs : List NZ}, (insZ e zs).Perm (e :: zs)
  | [] => List.Perm.refl _
  | z :: zs => by
    rw [insZ]
    split
    · exact List.Perm.refl _
    · exact (List.Perm.cons _ insZ_perm).trans (List.Perm.swap _ _ _)
def gtA (e : NZ) (es : List NZ) : Bool := es.any fun x => decide (e.1.1 < x.1.1)
def outG (e : NZ) (es : List NZ) : List NZ := if gtA e es then insZ e es else es
theorem ins_none {e : NZ} : ∀ {es : List NZ}, gtA e es = false → insZ e es = es ++ [e]
  | [], _ => rfl
  | x :: xs, h => by
    simp only [gtA, List.any_cons, Bool.or_eq_false_iff] at h
    rw [insZ, if_neg (by simpa using h.1), ins_none h.2]; rfl
theorem ins_app {e x : NZ} : ∀ {es : List NZ}, insZ e (es ++ [x]) = if gtA e es then insZ e es ++ [x] else if e.1.1 < x.1.1 then es ++ [e, x] else es ++ [x, e]
  | [] => by
    simp only [gtA, List.any_nil, List.nil_append, insZ]; simp
  | y :: ys => by
    rw [List.cons_append, insZ, ins_app (es := ys)]
    by_cases h : e.1.1 < y.1.1
    · simp [gtA, h, insZ]
    · simp only [gtA, List.any_cons, h, if_false, insZ, decide_false, Bool.false_or]
      by_cases h2 : (ys.any fun x => decide (e.1.1 < x.1.1)) = true
      · simp only [h2, if_true]; rfl
      · simp only [h2]
        by_cases h3 : e.1.1 < x.1.1 <;> simp [h3]
theorem gt_app {e x : NZ} {es : List NZ} : gtA e (es ++ [x]) = (gtA e es || decide (e.1.1 < x.1.1)) := by simp [gtA]
theorem out_done {e x : NZ} {es : List NZ} (h : gtA e es = true) : outG e (es ++ [x]) = outG e es ++ [x] := by
  simp only [outG, gt_app, h, Bool.true_or, if_true, ins_app]
theorem out_now {e x : NZ} {es : List NZ} (h : gtA e es = false) (hx : e.1.1 < x.1.1) : outG e (es ++ [x]) = outG e es ++ [e, x] := by
  simp only [outG, gt_app, h, Bool.false_or, hx, decide_true, if_true, ins_app]
  simp
theorem out_not {e x : NZ} {es : List NZ} (h : gtA e es = false) (hx : ¬ e.1.1 < x.1.1) : outG e (es ++ [x]) = outG e es ++ [x] := by
  simp only [outG, gt_app, h, Bool.false_or, hx, decide_false]
  simp
theorem insZ_len {e : NZ} {es : List NZ} : (insZ e es).length = es.length + 1 := by rw [insZ_perm.length_eq]; rfl
theorem outG_len {e : NZ} {es : List NZ} : (outG e es).length ≤ es.length + 1 := by
  unfold outG; split
  · rw [insZ_len]; omega
  · omega
section
variable {O : Old} {h : AHeap} {R : List Chunk} {i : Nat}
theorem findIdx_V {T : TL} {p : List UInt8} {n : Nd} (h : get T p = some n) : ∃ q : Nat, T[q]? = some (p, n) ∧ idxV T p = q := by
  obtain ⟨q, hq, hqf⟩ := findIdx_get h
  have : idxE T p = some q := hqf
  exact ⟨q, hq, by simp only [idxV, this]⟩
set_option maxHeartbeats 16000000 in
theorem rput_calls {e : NZ} {xs : TL} {nd : Nd} {v : Value} (hX : RX xs) (k : Own O h (cell i (rrow v) :: nds v xs :: sb e :: R)) (hp : e.1.1.length ≤ 100000) (hpar : get xs (par e.1.1) = some nd) :
    ACalls Tryz.prog 42 #[ptr i, .agg (nz e).toArray] h fun r h' => r = .int .i64 (putE xs e.1.1 e.1.2) ∧ Own O h' (rts i (if putE xs e.1.1 e.1.2 = 0 then insX e.1 xs else xs) :: R) := by
  refine ACalls.of_awp (args := [ptr i, .agg (nz e).toArray]) (n := 78) Tryz.func42 rfl rfl (by show 2 ≤ 78; omega) ?_
  have hln := hX.ln
  obtain ⟨va, vc, rfl⟩ := k.b1.grecs_val
  have k1 := k.push (.row (nz e) 47 5 true false)
  have c1 := k1.obj
  have i1 := k1.b1.obj
  obtain ⟨q, hq, hqv⟩ := findIdx_V hpar
  have hmd : nd.mode ≤ 63 := hX.md _ (List.mem_of_getElem? hq)
  obtain ⟨bi, bo, cc, e', sz, ti, ro, a, cap, q1, q2, q3, q4, q5⟩ := nds_row k1.b2 hq (kd := .i64)
  obtain ⟨⟨ep, ⟨edir, eown, emode, edata⟩⟩, ea, ecap⟩ := e
  dsimp only at hp hpar hqv hq q4 q5
  have hpE : putE xs ep ⟨edir, eown, emode, edata⟩ = if may eown nd 2 = false then 114 else if 64 ≤ xs.length then 2 else 0 := by
    simp only [putE, hpar]
  dsimp only
  rw [hpE]
  (repeat' first
    | refine AWP.seq ?_
    | refine AWP.block ?_
    | (refine AWP.skip ?_; try dsimp only [thn, inBlk])
    | (refine AWP.exit ?_; try simp only [thn, inBlk, if_true, reduceIte, Nat.reduceEqDiff])
    | (refine AWP.ret ?_; try dsimp only [thn, inBlk])
    | (refine AWP.condT ?_ ?_; (focus (simp [go_sem]; done)))
    | (refine AWP.condF ?_ ?_; (focus (simp [go_sem]; done)))
    | (apply AWP.rE; (focus (simp [go_sem]; exact ⟨rfl, rfl⟩)); try dsimp only [thn, inBlk])
    | (apply AWP.dE hmix [.n 0 [6], .n 1 [39], .n 2 [40], .n 3 [0, 41], .n 4 [42, 41], .n 5 [43, 41], .n 6 [44, 41], .n 7 [7, 41], .n 8 [45, 46, 41], .n 9 [47, 41], .n 10 [48, 41], .n 11 [3, 41], .n 12 [50, 41], .n 13 [49, 51, 41], .n 14 [41, 52]]; (focus kernel_rfl); (focus (simp [go_sem]; exact ⟨rfl, rfl⟩)); try dsimp only [thn, inBlk])
    | fail)
  refine AWP.draw hmix [.n 0 [3], .n 1 [8], .n 2 [0], .n 3 [10], .n 4 [11], .n 5 [12], .n 6 [0], .n 7 [3], .n 8 [15], .w 9 [16] [1, 5], .w 10 [14, 17] [1, 5], .n 11 [13, 18], .n 12 [19], .w 13 [9, 20] [], .n 14 [21]] (by kernel_rfl) ?_
  refine awpD_callR 9 (by rfl) (by rfl) (by simp [go_sem, c1, i1]; exact ⟨rfl, rfl, rfl⟩) (by rfl) (by rfl) (by simp [go_sem]) (by simp [go_sem, c1, i1]; exact ⟨rfl, rfl⟩) (by kernel_rfl) ?_
  refine (rpar_calls (l := ep) (by omega)).mono ?_
  rintro r h2 ⟨rfl, rfl⟩
  refine ⟨by simp [still, go_sem, c1, i1], ?_⟩
  refine awpD_callR 0 (by rfl) (by rfl) (by simp [go_sem, c1, i1]; exact ⟨rfl, rfl, rfl⟩) (by rfl) (by rfl) (by simp [go_sem]) (by simp [go_sem, c1, i1]; exact ⟨rfl, rfl⟩) (by kernel_rfl) ?_
  refine (rat_calls (p := par ep) k1.b2.b2 (by omega)).mono ?_
  rintro r h3 ⟨rfl, rfl⟩
  refine ⟨by simp [still, go_sem, c1, i1], ?_⟩
  rw [hqv]
  refine awpD_callR 2 (by rfl) (by rfl) (by simp [go_sem, c1, i1, q1, q2, q3, q4]; exact ⟨rfl, rfl, rfl⟩) (by rfl) (by rfl) (by simp [go_sem]) (by simp [go_sem, c1, i1, q1, q2, q3, q4]; exact ⟨rfl, rfl⟩) (by kernel_rfl) ?_
  refine (rmay_calls (who := eown) (x := (par ep, nd)) (a := a) (cap := cap) (bit := 2) k1 hmd (by simp)).mono ?_
  rintro r h5 ⟨rfl, k5⟩
  have i5 := k5.b1.obj
  have c5 := k5.obj
  refine ⟨by simp [still, go_sem, c1, i1, c5, i5], ?_⟩
  cases hmay : may eown nd 2
  · simp only [if_true]
    refine awpD_restR (by rfl) (by simp [go_sem]; exact ⟨rfl, rfl, rfl⟩) ?_; try dsimp only [thn, inBlk]
    (repeat' first
      | refine AWP.seq ?_
      | refine AWP.block ?_
      | (refine AWP.skip ?_; try dsimp only [thn, inBlk])
      | (refine AWP.exit ?_; try simp only [thn, inBlk, if_true, reduceIte, Nat.reduceEqDiff])
      | (refine AWP.ret ?_; try dsimp only [thn, inBlk])
      | (refine AWP.condT ?_ ?_; (focus (simp [go_sem]; done)))
      | (refine AWP.condF ?_ ?_; (focus (simp [go_sem]; done)))
      | (apply AWP.rE; (focus (simp [go_sem]; exact ⟨rfl, rfl⟩)); try dsimp only [thn, inBlk])
      | (apply AWP.dE hmix [.n 0 [6], .n 1 [39], .n 2 [40], .n 3 [0, 41], .n 4 [42, 41], .n 5 [43, 41], .n 6 [44, 41], .n 7 [7, 41], .n 8 [45, 46, 41], .n 9 [47, 41], .n 10 [48, 41], .n 11 [3, 41], .n 12 [50, 41], .n 13 [49, 51, 41], .n 14 [41, 52]]; (focus kernel_rfl); (focus (simp [go_sem]; exact ⟨rfl, rfl⟩)); try dsimp only [thn, inBlk])
      | fail)
    simp [bodyQ, thn, inBlk, resA, resV, go_sem]
    exact rts_iff.2 ⟨_, k5.tail.d2⟩
  simp only [Bool.true_eq_false, if_false]
  by_cases h64 : 64 ≤ xs.length
  · have h64' : (64 : Int) ≤ xs.length := by omega
    simp only [if_pos h64]
    refine awpD_restR (by rfl) (by simp [go_sem]; exact ⟨rfl, rfl, rfl⟩) ?_; try dsimp only [thn, inBlk]
    (repeat' first
      | refine AWP.seq ?_
      | refine AWP.block ?_
      | (refine AWP.skip ?_; try dsimp only [thn, inBlk])
      | (refine AWP.exit ?_; try simp only [thn, inBlk, if_true, reduceIte, Nat.reduceEqDiff])
      | (refine AWP.ret ?_; try dsimp only [thn, inBlk])
      | (refine AWP.condT ?_ ?_; (focus (simp [go_sem, i5, h64']; done)))
      | (refine AWP.condF ?_ ?_; (focus (simp [go_sem, i5, h64']; done)))
      | (apply AWP.rE; (focus (simp [go_sem, i5, h64']; exact ⟨rfl, rfl⟩)); try dsimp only [thn, inBlk])
      | (apply AWP.dE hmix [.n 0 [6], .n 1 [39], .n 2 [40], .n 3 [0, 41], .n 4 [42, 41], .n 5 [43, 41], .n 6 [44, 41], .n 7 [7, 41], .n 8 [45, 46, 41], .n 9 [47, 41], .n 10 [48, 41], .n 11 [3, 41], .n 12 [50, 41], .n 13 [49, 51, 41], .n 14 [41, 52]]; (focus kernel_rfl); (focus (simp [go_sem, i5, h64']; exact ⟨rfl, rfl⟩)); try dsimp only [thn, inBlk])
      | fail)
    simp [bodyQ, thn, inBlk, resA, resV, go_sem]
    exact rts_iff.2 ⟨_, k5.tail.d2⟩
  have h64' : ¬ (64 : Int) ≤ xs.length := by omega
  simp only [if_neg h64, if_true]
  obtain ⟨zs, hzs, k6⟩ := nds_zs.1 k5.b2
  have hzl : zs.length = xs.length := by rw [← hzs, List.length_map]
  have k7 := Own.outR (A := [_, _, _]) (Own.outR (A := [_, _]) (Own.outR (A := [_]) k6))
  simp only [List.cons_append, List.nil_append] at k7
  have k8 := k7.p3.b1
  obtain ⟨E, hE⟩ : ∃ E : NZ, E = ((ep, (⟨edir, eown, emode, edata⟩ : Nd)), ea, ecap) := ⟨_, rfl⟩
  have hins : insX (ep, (⟨edir, eown, emode, edata⟩ : Nd)) xs = (insZ E zs).map (·.1) := by rw [insZ_map, hzs, hE]
  have hep : ep = E.1.1 := by rw [hE]
  rw [hins]
  rw [← hE] at k8
  simp only [hep] at *
  have c8 := k8.obj
  have i8 := k8.b1.obj
  rw [← hzl] at k8 h64' i5 i8
  generalize va = va2 at *
  have k9 : Own O (h5.push (.row [] 47 5 true false)) (nzs (.slice (some ⟨h5.next, 0, none⟩) 0 0) [] :: cell h.next (.row (nz E) 47 5 true false) :: cell i (rrow (.slice va2 zs.length vc)) :: nzs (.slice va2 zs.length vc) zs :: sb E :: (zs.map sb ++ R)) := (k8.push (.row [] 47 5 true false)).os_mk (Nat.le_refl _) (by simp) (by simp)
  rw [← hzl]
  refine awpD_restR (by rfl) (by simp [go_sem]; exact ⟨rfl, rfl, rfl⟩) ?_; try dsimp only [thn, inBlk]
  (repeat' first
    | refine AWP.seq ?_
    | refine AWP.block ?_
    | (refine AWP.skip ?_; try dsimp only [thn, inBlk])
    | (refine AWP.exit ?_; try simp only [thn, inBlk, if_true, reduceIte, Nat.reduceEqDiff])
    | (refine AWP.ret ?_; try dsimp only [thn, inBlk])
    | (refine AWP.condT ?_ ?_; (focus (simp [go_sem, i5, i8, h64']; done)))
    | (refine AWP.condF ?_ ?_; (focus (simp [go_sem, i5, i8, h64']; done)))
    | (apply AWP.rE; (focus (simp [go_sem, i5, i8, h64']; exact ⟨rfl, rfl⟩)); try dsimp only [thn, inBlk])
    | (apply AWP.dE hmix [.n 0 [6], .n 1 [39], .n 2 [40], .n 3 [0, 41], .n 4 [42, 41], .n 5 [43, 41], .n 6 [44, 41], .n 7 [7, 41], .n 8 [45, 46, 41], .n 9 [47, 41], .n 10 [48, 41], .n 11 [3, 41], .n 12 [50, 41], .n 13 [49, 51, 41], .n 14 [41, 52]]; (focus kernel_rfl); (focus (simp [go_sem, i5, i8, h64']; exact ⟨rfl, rfl⟩)); try dsimp only [thn, inBlk])
    | fail)
  clear k7 q1 q2 q3 q4 q5 c1 i1 k1 c5 k5 k6
  refine AWP.loopR [0, 3, 5, 6, 7] (fun m s h' => ∃ (j : Nat) (a : Option Addr) (cap : Nat), j ≤ zs.length ∧ m = zs.length - j ∧ s = ⟨78, [(0, ptr i), (3, ptr h.next), (5, .slice a (outG E (zs.take j)).length cap), (6, .bool (gtA E (zs.take j))), (7, .int .i64 j)]⟩ ∧
      Own O h' (nzs (.slice a (outG E (zs.take j)).length cap) (outG E (zs.take j)) :: cell h.next (.row (nz E) 47 5 true false) :: cell i (rrow (.slice va2 zs.length vc)) :: nzs (.slice va2 zs.length vc) zs :: sb E :: (zs.map sb ++ R))) ?_ ?_
  · refine ⟨_, 0, some ⟨h5.next, 0, none⟩, 0, by omega, rfl, ?_, ?_⟩
    · simp [go_sem, outG, gtA]
    · simpa [outG, gtA, nzs] using k9
  rintro m s hB ⟨j, a, cap, hj, rfl, rfl, kB⟩
  have cB := kB.b1.obj
  have ciB := kB.b2.obj
  have hol := outG_len (e := E) (es := zs.take j)
  have htl : (zs.take j).length ≤ j := by rw [List.length_take]; omega
  by_cases hjm : j < zs.length
  · have hjm' : (j : Int) < zs.length := by omega
    have hj' : zs[j]? = some zs[j] := List.getElem?_eq_getElem hjm
    have htk : zs.take (j + 1) = zs.take j ++ [zs[j]] := List.take_succ_eq_append_getElem hjm
    have w1 : IntKind.i64.wrap ((j : Int) + 1) = ((j + 1 : Nat) : Int) := by rw [wI64 (by omega) (by omega)]; omega
    have q := fun {hh : AHeap} {A : List Chunk} (kk : Own O hh (nzs (.slice va2 zs.length vc) zs :: A)) => nz_at kk hj' (kd := .i64)
    generalize zs[j] = x at *
    cases hg : gtA E (zs.take j)
    · obtain ⟨bi, bo, c, e', sz, ti, ro, q1, q2, q3, q4, q5⟩ := q kB.b3
      have q50 : c[bo]? = some (tx x.1.1) := q5 0 _ rfl
      by_cases hx : E.1.1 < x.1.1
      rotate_left
      · have ho : outG E (zs.take (j + 1)) = outG E (zs.take j) ++ [x] := by rw [htk, out_not hg hx]
        have hg2 : gtA E (zs.take (j + 1)) = false := by rw [htk, gt_app, hg]; simpa using hx
        obtain ⟨na, nc, h7, e7, k7⟩ := Own.appN (P := Tryz.prog) (t := 39) (xt := 39) (m := 1) (xs := nz x) (i := hB.next) Tryz.underlying39 tsz47 tby47 tz47 nI39 (by omega) (by omega) (by rfl) kB rfl rfl (nz_ok x) (by omega)
        (repeat' first
          | refine AWP.seq ?_
          | refine AWP.block ?_
          | (refine AWP.skip ?_; try dsimp only [thn, inBlk])
          | (refine AWP.exit ?_; try simp only [thn, inBlk, if_true, reduceIte, Nat.reduceEqDiff])
          | (refine AWP.ret ?_; try dsimp only [thn, inBlk])
          | (refine AWP.condT ?_ ?_; (focus (simp [go_sem, hjm', ciB, cB, w1, hg, q1, q2, q3, q4, q50, strA_gtr, hx, e7]; done)))
          | (refine AWP.condF ?_ ?_; (focus (simp [go_sem, hjm', ciB, cB, w1, hg, q1, q2, q3, q4, q50, strA_gtr, hx, e7]; done)))
          | (apply AWP.rE; (focus (simp [go_sem, hjm', ciB, cB, w1, hg, q1, q2, q3, q4, q50, strA_gtr, hx, e7]; exact ⟨rfl, rfl⟩)); try dsimp only [thn, inBlk])
          | (apply AWP.dE hmix [.n 0 [6], .n 1 [39], .n 2 [40], .n 3 [0, 41], .n 4 [42, 41], .n 5 [43, 41], .n 6 [44, 41], .n 7 [7, 41], .n 8 [45, 46, 41], .n 9 [47, 41], .n 10 [48, 41], .n 11 [3, 41], .n 12 [50, 41], .n 13 [49, 51, 41], .n 14 [41, 52]]; (focus kernel_rfl); (focus (simp [go_sem, hjm', ciB, cB, w1, hg, q1, q2, q3, q4, q50, strA_gtr, hx, e7]; exact ⟨rfl, rfl⟩)); try dsimp only [thn, inBlk])
          | fail)
        refine ⟨zs.length - (j + 1), by omega, j + 1, na, nc, by omega, rfl, by simp [go_sem, ho, hg2], ?_⟩
        rw [ho, List.length_append]
        exact nzs_app k7
      · have ho : outG E (zs.take (j + 1)) = (outG E (zs.take j) ++ [E]) ++ [x] := by rw [htk, out_now hg hx, List.append_assoc]; rfl
        have hg2 : gtA E (zs.take (j + 1)) = true := by rw [htk, gt_app, hg]; simpa using hx
        obtain ⟨na, nc, h7, e7, k7⟩ := Own.appN (P := Tryz.prog) (t := 39) (xt := 39) (m := 1) (xs := nz E) (i := hB.next) Tryz.underlying39 tsz47 tby47 tz47 nI39 (by omega) (by omega) (by rfl) kB rfl rfl (nz_ok E) (by omega)
        have c7 := k7.b2.obj
        obtain ⟨bi2, bo2, cc2, e2', sz2, ti2, ro2, r1, r2, r3, r4, r5⟩ := q k7.b3
        cases q1.symm.trans r1
        obtain ⟨na2, nc2, h8, e8, k8⟩ := Own.appN (P := Tryz.prog) (t := 39) (xt := 39) (m := 1) (xs := nz x) (i := h7.next) Tryz.underlying39 tsz47 tby47 tz47 nI39 (by omega) (by omega) (by rfl) k7 rfl rfl (nz_ok x) (by omega)
        (repeat' first
          | refine AWP.seq ?_
          | refine AWP.block ?_
          | (refine AWP.skip ?_; try dsimp only [thn, inBlk])
          | (refine AWP.exit ?_; try simp only [thn, inBlk, if_true, reduceIte, Nat.reduceEqDiff])
          | (refine AWP.ret ?_; try dsimp only [thn, inBlk])
          | (refine AWP.condT ?_ ?_; (focus (simp [go_sem, hjm', ciB, cB, w1, hg, q1, q2, q3, q4, q50, strA_gtr, hx, e7, c7, r2, r3, r4, e8]; done)))
          | (refine AWP.condF ?_ ?_; (focus (simp [go_sem, hjm', ciB, cB, w1, hg, q1, q2, q3, q4, q50, strA_gtr, hx, e7, c7, r2, r3, r4, e8]; done)))
          | (apply AWP.rE; (focus (simp [go_sem, hjm', ciB, cB, w1, hg, q1, q2, q3, q4, q50, strA_gtr, hx, e7, c7, r2, r3, r4, e8]; exact ⟨rfl, rfl⟩)); try dsimp only [thn, inBlk])
          | (apply AWP.dE hmix [.n 0 [6], .n 1 [39], .n 2 [40], .n 3 [0, 41], .n 4 [42, 41], .n 5 [43, 41], .n 6 [44, 41], .n 7 [7, 41], .n 8 [45, 46, 41], .n 9 [47, 41], .n 10 [48, 41], .n 11 [3, 41], .n 12 [50, 41], .n 13 [49, 51, 41], .n 14 [41, 52]]; (focus kernel_rfl); (focus (simp [go_sem, hjm', ciB, cB, w1, hg, q1, q2, q3, q4, q50, strA_gtr, hx, e7, c7, r2, r3, r4, e8]; exact ⟨rfl, rfl⟩)); try dsimp only [thn, inBlk])
          | fail)
        refine ⟨zs.length - (j + 1), by omega, j + 1, na2, nc2, by omega, rfl, by simp [go_sem, ho, hg2], ?_⟩
        rw [ho, List.length_append, List.length_append]
        refine nzs_app ?_
        rw [List.length_append, List.map_append, List.flatten_append]
        simpa using k8
    · have ho : outG E (zs.take (j + 1)) = outG E (zs.take j) ++ [x] := by rw [htk, out_done hg]
      have hg2 : gtA E (zs.take (j + 1)) = true := by rw [htk, gt_app, hg]; rfl
      obtain ⟨bi, bo, c, e', sz, ti, ro, q1, q2, q3, q4, q5⟩ := q kB.b3
      obtain ⟨na, nc, h7, e7, k7⟩ := Own.appN (P := Tryz.prog) (t := 39) (xt := 39) (m := 1) (xs := nz x) (i := hB.next) Tryz.underlying39 tsz47 tby47 tz47 nI39 (by omega) (by omega) (by rfl) kB rfl rfl (nz_ok x) (by omega)
      (repeat' first
        | refine AWP.seq ?_
        | refine AWP.block ?_
        | (refine AWP.skip ?_; try dsimp only [thn, inBlk])
        | (refine AWP.exit ?_; try simp only [thn, inBlk, if_true, reduceIte, Nat.reduceEqDiff])
        | (refine AWP.ret ?_; try dsimp only [thn, inBlk])
        | (refine AWP.condT ?_ ?_; (focus (simp [go_sem, hjm', ciB, cB, w1, hg, q1, q2, q3, q4, e7]; done)))
        | (refine AWP.condF ?_ ?_; (focus (simp [go_sem, hjm', ciB, cB, w1, hg, q1, q2, q3, q4, e7]; done)))
        | (apply AWP.rE; (focus (simp [go_sem, hjm', ciB, cB, w1, hg, q1, q2, q3, q4, e7]; exact ⟨rfl, rfl⟩)); try dsimp only [thn, inBlk])
        | (apply AWP.dE hmix [.n 0 [6], .n 1 [39], .n 2 [40], .n 3 [0, 41], .n 4 [42, 41], .n 5 [43, 41], .n 6 [44, 41], .n 7 [7, 41], .n 8 [45, 46, 41], .n 9 [47, 41], .n 10 [48, 41], .n 11 [3, 41], .n 12 [50, 41], .n 13 [49, 51, 41], .n 14 [41, 52]]; (focus kernel_rfl); (focus (simp [go_sem, hjm', ciB, cB, w1, hg, q1, q2, q3, q4, e7]; exact ⟨rfl, rfl⟩)); try dsimp only [thn, inBlk])
        | fail)
      refine ⟨zs.length - (j + 1), by omega, j + 1, na, nc, by omega, rfl, by simp [go_sem, ho, hg2], ?_⟩
      rw [ho, List.length_append]
      exact nzs_app k7
  have hjm' : ¬ (j : Int) < zs.length := by omega
  obtain rfl : j = zs.length := by omega
  rw [List.take_length] at kB hol ⊢
  have fin : ∀ {hh : AHeap} {V : Value}, Own O hh (cell i (rrow V) :: nzs V (insZ E zs) :: sb E :: (zs.map sb ++ R)) → Own O hh (rts i ((insZ E zs).map (·.1)) :: R) := fun {hh V} kk => by
    refine rts_iff.2 ⟨V, ?_⟩
    have p : (nzs V (insZ E zs) :: ((insZ E zs).map sb ++ (cell i (rrow V) :: R))).Perm (cell i (rrow V) :: nzs V (insZ E zs) :: sb E :: (zs.map sb ++ R)) := by
      refine List.Perm.trans ?_ (List.Perm.swap _ _ _)
      refine List.Perm.cons _ ?_
      refine List.perm_middle.trans ?_
      refine List.Perm.cons _ ?_
      exact (insZ_perm.map sb).append_right R
    exact (nds_zs.2 ⟨insZ E zs, rfl, kk.perm p.symm⟩).b1
  cases hg : gtA E zs
  · have ho : insZ E zs = outG E zs ++ [E] := by simp only [outG, hg]; exact ins_none hg
    obtain ⟨na, nc, h7, e7, k7⟩ := Own.appN (P := Tryz.prog) (t := 39) (xt := 39) (m := 1) (xs := nz E) (i := hB.next) Tryz.underlying39 tsz47 tby47 tz47 nI39 (by omega) (by omega) (by rfl) kB rfl rfl (nz_ok E) (by omega)
    have c7 := k7.b2.obj
    (repeat' first
      | refine AWP.seq ?_
      | refine AWP.block ?_
      | (refine AWP.skip ?_; try dsimp only [thn, inBlk])
      | (refine AWP.exit ?_; try simp only [thn, inBlk, if_true, reduceIte, Nat.reduceEqDiff])
      | (refine AWP.ret ?_; try dsimp only [thn, inBlk])
      | (refine AWP.condT ?_ ?_; (focus (simp [go_sem, hjm', ciB, cB, hg, e7, c7]; done)))
      | (refine AWP.condF ?_ ?_; (focus (simp [go_sem, hjm', ciB, cB, hg, e7, c7]; done)))
      | (apply AWP.rE; (focus (simp [go_sem, hjm', ciB, cB, hg, e7, c7]; exact ⟨rfl, rfl⟩)); try dsimp only [thn, inBlk])
      | (apply AWP.dE hmix [.n 0 [6], .n 1 [39], .n 2 [40], .n 3 [0, 41], .n 4 [42, 41], .n 5 [43, 41], .n 6 [44, 41], .n 7 [7, 41], .n 8 [45, 46, 41], .n 9 [47, 41], .n 10 [48, 41], .n 11 [3, 41], .n 12 [50, 41], .n 13 [49, 51, 41], .n 14 [41, 52]]; (focus kernel_rfl); (focus (simp [go_sem, hjm', ciB, cB, hg, e7, c7]; exact ⟨rfl, rfl⟩)); try dsimp only [thn, inBlk])
      | fail)
    simp [bodyQ, thn, inBlk, resA, resV, go_sem]
    have k8 := ((nzs_app k7).b2.set (rrow (.slice na ((outG E zs).length + 1) nc)))
    rw [← ho] at k8
    exact fin (k8.d2.d2)
  · have ho : insZ E zs = outG E zs := by simp only [outG, hg]; rfl
    (repeat' first
      | refine AWP.seq ?_
      | refine AWP.block ?_
      | (refine AWP.skip ?_; try dsimp only [thn, inBlk])
      | (refine AWP.exit ?_; try simp only [thn, inBlk, if_true, reduceIte, Nat.reduceEqDiff])
      | (refine AWP.ret ?_; try dsimp only [thn, inBlk])
      | (refine AWP.condT ?_ ?_; (focus (simp [go_sem, hjm', ciB, cB, hg]; done)))
      | (refine AWP.condF ?_ ?_; (focus (simp [go_sem, hjm', ciB, cB, hg]; done)))
      | (apply AWP.rE; (focus (simp [go_sem, hjm', ciB, cB, hg]; exact ⟨rfl, rfl⟩)); try dsimp only [thn, inBlk])
      | (apply AWP.dE hmix [.n 0 [6], .n 1 [39], .n 2 [40], .n 3 [0, 41], .n 4 [42, 41], .n 5 [43, 41], .n 6 [44, 41], .n 7 [7, 41], .n 8 [45, 46, 41], .n 9 [47, 41], .n 10 [48, 41], .n 11 [3, 41], .n 12 [50, 41], .n 13 [49, 51, 41], .n 14 [41, 52]]; (focus kernel_rfl); (focus (simp [go_sem, hjm', ciB, cB, hg]; exact ⟨rfl, rfl⟩)); try dsimp only [thn, inBlk])
      | fail)
    simp [bodyQ, thn, inBlk, resA, resV, go_sem]
    have k8 := (kB.b2.set (rrow (.slice a (outG E zs).length cap)))
    rw [← ho] at k8 ⊢
    exact fin (k8.d2.d2)
end
end L23
end

