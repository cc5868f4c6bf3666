import Derived.Test.YtdhgidgikjefbaaDoorL09n
import Derived.Test.YtdhgidgikjefbaaDoorAbLibE
open Go Ab Go.Proofs
namespace L09
set_option autoImplicit false
set_option linter.unusedSimpArgs false
set_option linter.unusedVariables false

/-! ### The document's entries -/
abbrev rrow (v : Value) : AObj := .row [v] 30 1 true false
def rbs (i : Nat) (es : List En) : Chunk := ex fun v : Value => star [cell i (rrow v), ens v es]
theorem rbs_iff {O : Old} {h : AHeap} {R : List Chunk} {i : Nat} {es : List En} : Own O h (rbs i es :: R) ↔ ∃ v, Own O h (cell i (rrow v) :: ens v es :: R) := by
  simp only [rbs, Own.ex_iff, Own.star_iff, List.cons_append, List.nil_append]
theorem en_all {es : List En} : ∀ x ∈ es.map en, x.length = 20 := fun x hx => by
  obtain ⟨a, _, rfl⟩ := List.mem_map.1 hx; exact en_len
theorem en_at {O : Old} {h : AHeap} {R : List Chunk} {v : Value} {es : List En} (k : Own O h (ens v es :: R)) {j : Nat} {e : En} (hj : es[j]? = some e) {kd : IntKind} :
    ∃ i off c e' sz' ti ro, indexAddrP Tryd.prog 28 v (.int kd j) = some (.pointer (some ⟨i, off, none⟩)) ∧ h.obj i = some (.row c e' sz' ti ro) ∧ off + 20 ≤ c.length ∧ (c.drop off).take 20 = en e ∧ c[off]? = some (tx e.nm) ∧ c[off + 19]? = some (.bool e.off) := by
  obtain ⟨hjl, hje⟩ := List.getElem?_eq_some_iff.1 hj
  obtain ⟨i, off, c, e', sz', ti, ro, q1, q2, q3, q4, q5⟩ := k.os_sl.record (P := Tryd.prog) (t := 28) (l := es.map en) Tryd.underlying28 tsz34 en_all (by simp) hjl (kd := kd)
  rw [List.getElem_map, hje] at q4 q5
  exact ⟨i, off, c, e', sz', ti, ro, q1, q2, q3, q4, q5 0 _ en_0, q5 19 _ en_19⟩
def idxE (es : List En) (n : List UInt8) : Option Nat := es.findIdx? fun e => e.nm == n
def idxV (es : List En) (n : List UInt8) : Int := match idxE es n with
  | some j => j
  | none => -1
section
variable {O : Old} {h : AHeap} {R : List Chunk} {i : Nat} {es : List En}
theorem at_calls {n : List UInt8} {v : Value} (k : Own O h (cell i (rrow v) :: ens v es :: R)) (hm : es.length ≤ 1000000) :
    ACalls Tryd.prog 17 #[ptr i, tx n] h fun r h' => r = .int .i64 (idxV es n) ∧ h' = h := by
  refine ACalls.of_awp (args := [ptr i, tx n]) (n := 26) Tryd.func17 rfl rfl (by show 2 ≤ 26; omega) ?_
  obtain ⟨va, vc, rfl⟩ := k.b1.os_val
  have ci := k.obj
  (repeat' first
    | refine AWP.seq ?_
    | refine AWP.block ?_
    | (refine AWP.skip ?_; try dsimp only [thn, inBlk])
    | (refine AWP.exit ?_; try simp only [thn, inBlk, if_true, reduceIte, Nat.reduceEqDiff])
    | (refine AWP.ret ?_; try dsimp only [thn, inBlk])
    | (refine AWP.condT ?_ ?_; (focus (simp [go_sem]; done)))
    | (refine AWP.condF ?_ ?_; (focus (simp [go_sem]; done)))
    | (apply AWP.rE; (focus (simp [go_sem]; exact ⟨rfl, rfl⟩)); try dsimp only [thn, inBlk])
    | fail)
  refine AWP.loopR [0, 1, 5] (fun m s h' => ∃ j : Nat, j ≤ es.length ∧ m = es.length - j ∧ s = ⟨26, [(0, ptr i), (1, tx n), (5, .int .i64 j)]⟩ ∧ (∀ x e, x < j → es[x]? = some e → e.nm ≠ n) ∧ h' = h) ?_ ?_
  · exact ⟨_, 0, by omega, rfl, rfl, fun x e hx => by omega, rfl⟩
  rintro m s hB ⟨j, hj, rfl, rfl, hI, rfl⟩
  by_cases hjm : j < es.length
  · have hjm' : (j : Int) < es.length := by omega
    have hj' : es[j]? = some es[j] := List.getElem?_eq_getElem hjm
    obtain ⟨bi, bo, c, e', sz, ti, ro, q1, q2, q3, q4, q5, q6⟩ := en_at k.b1 hj' (kd := .i64)
    have w1 : IntKind.i64.wrap ((j : Int) + 1) = ((j + 1 : Nat) : Int) := by rw [wI64 (by omega) (by omega)]; omega
    by_cases hn : es[j].nm = n
    · have e1 : idxE es n = some j := by
        unfold idxE
        rw [List.findIdx?_eq_some_iff_getElem]
        exact ⟨hjm, by simpa using hn, fun x hx => by simpa using hI x _ hx (List.getElem?_eq_getElem (by omega))⟩
      have e2 : idxV es n = j := by simp only [idxV, e1]
      have hn' : (es[j].nm == n) = true := by simpa using hn
      rw [e2]
      generalize es[j] = e at *
      (repeat' first
        | refine AWP.seq ?_
        | refine AWP.block ?_
        | (refine AWP.skip ?_; try dsimp only [thn, inBlk])
        | (refine AWP.exit ?_; try simp only [thn, inBlk, if_true, reduceIte, Nat.reduceEqDiff])
        | (refine AWP.ret ?_; try dsimp only [thn, inBlk])
        | (refine AWP.condT ?_ ?_; (focus (simp [go_sem, ci, hjm', q1, q2, q5, hn']; done)))
        | (refine AWP.condF ?_ ?_; (focus (simp [go_sem, ci, hjm', q1, q2, q5, hn']; done)))
        | (apply AWP.rE; (focus (simp [go_sem, ci, hjm', q1, q2, q5, hn']; exact ⟨rfl, rfl⟩)); try dsimp only [thn, inBlk])
        | fail)
      simp [bodyQ, thn, inBlk, resA, resV, go_sem]
    · have hn' : (es[j].nm == n) = false := by simpa using hn
      generalize es[j] = e at *
      (repeat' first
        | refine AWP.seq ?_
        | refine AWP.block ?_
        | (refine AWP.skip ?_; try dsimp only [thn, inBlk])
        | (refine AWP.exit ?_; try simp only [thn, inBlk, if_true, reduceIte, Nat.reduceEqDiff])
        | (refine AWP.ret ?_; try dsimp only [thn, inBlk])
        | (refine AWP.condT ?_ ?_; (focus (simp [go_sem, ci, hjm', q1, q2, q5, hn', w1]; done)))
        | (refine AWP.condF ?_ ?_; (focus (simp [go_sem, ci, hjm', q1, q2, q5, hn', w1]; done)))
        | (apply AWP.rE; (focus (simp [go_sem, ci, hjm', q1, q2, q5, hn', w1]; exact ⟨rfl, rfl⟩)); try dsimp only [thn, inBlk])
        | fail)
      refine ⟨es.length - (j + 1), by omega, j + 1, by omega, rfl, by simp [go_sem], fun x e' hx hx' => ?_, rfl⟩
      by_cases e1 : x = j
      · subst e1; rw [hj'] at hx'; rw [← Option.some.inj hx']; exact hn
      · exact hI x e' (by omega) hx'
  · have hjm' : ¬ (j : Int) < es.length := by omega
    have e1 : idxE es n = none := by
      unfold idxE
      rw [List.findIdx?_eq_none_iff]
      intro x hx
      obtain ⟨q, hq⟩ := List.mem_iff_getElem?.1 hx
      simpa using hI q x (by have := (List.getElem?_eq_some_iff.1 hq).1; omega) hq
    have e2 : idxV es n = -1 := by simp only [idxV, e1]
    rw [e2]
    (repeat' first
      | refine AWP.seq ?_
      | refine AWP.block ?_
      | (refine AWP.skip ?_; try dsimp only [thn, inBlk])
      | (refine AWP.exit ?_; try simp only [thn, inBlk, if_true, reduceIte, Nat.reduceEqDiff])
      | (refine AWP.ret ?_; try dsimp only [thn, inBlk])
      | (refine AWP.condT ?_ ?_; (focus (simp [go_sem, ci, hjm']; done)))
      | (refine AWP.condF ?_ ?_; (focus (simp [go_sem, ci, hjm']; done)))
      | (apply AWP.rE; (focus (simp [go_sem, ci, hjm']; exact ⟨rfl, rfl⟩)); try dsimp only [thn, inBlk])
      | fail)
    simp [bodyQ, thn, inBlk, resA, resV, go_sem]
theorem idx_some {n : List UInt8} {j : Nat} (h : idxE es n = some j) : ∃ e, es[j]? = some e ∧ e.nm = n ∧ idxV es n = j := by
  have h2 := h
  unfold idxE at h
  rw [List.findIdx?_eq_some_iff_getElem] at h
  obtain ⟨h1, h3, _⟩ := h
  exact ⟨es[j], List.getElem?_eq_getElem h1, by simpa using h3, by simp only [idxV, h2]⟩
def getS (es : List En) (n : List UInt8) : En × Bool := match es.find? (fun e => e.nm == n) with
  | some e => if e.off then (zE, false) else (e, true)
  | none => (zE, false)
theorem find_idx {n : List UInt8} : es.find? (fun e => e.nm == n) = (idxE es n).bind fun j => es[j]? := by
  cases hi : idxE es n with
  | none =>
    have := hi
    unfold idxE at this
    rw [List.findIdx?_eq_none_iff] at this
    rw [Option.bind_none, List.find?_eq_none]
    intro x hx; simpa using this x hx
  | some j =>
    have h2 := hi
    unfold idxE at h2
    rw [List.findIdx?_eq_some_iff_getElem] at h2
    obtain ⟨h1, h3, h4⟩ := h2
    rw [Option.bind_some, List.getElem?_eq_getElem h1]
    rw [List.find?_eq_some_iff_getElem]
    exact ⟨h3, j, h1, rfl, fun x hx => by simpa using h4 x hx⟩
set_option maxHeartbeats 8000000 in
theorem rget_calls {n : List UInt8} (k : Own O h (rbs i es :: R)) (hm : es.length ≤ 1000000) :
    ACalls Tryd.prog 14 #[ptr i, tx n] h fun r h' => r = .tuple #[enV (getS es n).1, .bool (getS es n).2] ∧ Own O h' (rbs i es :: R) := by
  refine ACalls.of_awp (args := [ptr i, tx n]) (n := 30) Tryd.func14 rfl rfl (by show 2 ≤ 30; omega) ?_
  obtain ⟨v, k0⟩ := rbs_iff.1 k
  have k1 := k0.push (.row (en zE) 34 20 true false)
  have c1 := k1.b1.obj
  have c2 := k1.obj
  (repeat' first
    | refine AWP.seq ?_
    | refine AWP.block ?_
    | (refine AWP.skip ?_; try dsimp only [thn, inBlk])
    | (refine AWP.exit ?_; try simp only [thn, inBlk, if_true, reduceIte, Nat.reduceEqDiff])
    | (refine AWP.ret ?_; try dsimp only [thn, inBlk])
    | (refine AWP.condT ?_ ?_; (focus (simp [go_sem, ↓allocE]; done)))
    | (refine AWP.condF ?_ ?_; (focus (simp [go_sem, ↓allocE]; done)))
    | (apply AWP.rE; (focus (simp [go_sem, ↓allocE]; exact ⟨rfl, rfl⟩)); try dsimp only [thn, inBlk])
    | fail)
  refine AWP.callE (by simp [go_sem]; exact ⟨rfl, rfl, rfl, rfl, rfl⟩) (by kernel_rfl) ?_
  refine (at_calls (n := n) (k1.b2.b2) hm).mono ?_
  rintro r h2 ⟨rfl, rfl⟩
  cases hi : idxE es n with
  | none =>
    have e1 : idxV es n = -1 := by simp only [idxV, hi]
    have e2 : getS es n = (zE, false) := by simp only [getS, find_idx, hi]; rfl
    rw [e1, e2]
    refine awpL_restE (by simp [go_sem]; exact ⟨rfl, rfl⟩) ?_; try dsimp only [thn, inBlk]
    (repeat' first
      | refine AWP.seq ?_
      | refine AWP.block ?_
      | (refine AWP.skip ?_; try dsimp only [thn, inBlk])
      | (refine AWP.exit ?_; try simp only [thn, inBlk, if_true, reduceIte, Nat.reduceEqDiff])
      | (refine AWP.ret ?_; try dsimp only [thn, inBlk])
      | (refine AWP.condT ?_ ?_; (focus (simp [go_sem, ↓buildE, c2]; done)))
      | (refine AWP.condF ?_ ?_; (focus (simp [go_sem, ↓buildE, c2]; done)))
      | (apply AWP.rE; (focus (simp [go_sem, ↓buildE, c2]; exact ⟨rfl, rfl⟩)); try dsimp only [thn, inBlk])
      | fail)
    simp [bodyQ, thn, inBlk, resA, resV, go_sem, c2]
    exact rbs_iff.2 ⟨v, k1.tail⟩
  | some j =>
    obtain ⟨e, he, hn, e1⟩ := idx_some hi
    have hj0 : ¬ (j : Int) < 0 := by omega
    rw [e1]
    obtain ⟨bi, bo, c, e', sz, ti, ro, q1, q2, q3, q4, q5, q6⟩ := en_at k1.b2 he (kd := .i64)
    cases ho : e.off
    · have e2 : getS es n = (e, true) := by simp only [getS, find_idx, hi, Option.bind_some, he, ho]; rfl
      rw [e2]
      rw [ho] at q6
      refine awpL_restE (by simp [go_sem]; exact ⟨rfl, rfl⟩) ?_; try dsimp only [thn, inBlk]
      (repeat' first
        | refine AWP.seq ?_
        | refine AWP.block ?_
        | (refine AWP.skip ?_; try dsimp only [thn, inBlk])
        | (refine AWP.exit ?_; try simp only [thn, inBlk, if_true, reduceIte, Nat.reduceEqDiff])
        | (refine AWP.ret ?_; try dsimp only [thn, inBlk])
        | (refine AWP.condT ?_ ?_; (focus (simp [go_sem, ↓buildE, c1, c2, q1, q2, q3, q4, q6, hj0]; done)))
        | (refine AWP.condF ?_ ?_; (focus (simp [go_sem, ↓buildE, c1, c2, q1, q2, q3, q4, q6, hj0]; done)))
        | (apply AWP.rE; (focus (simp [go_sem, ↓buildE, c1, c2, q1, q2, q3, q4, q6, hj0]; exact ⟨rfl, rfl⟩)); try dsimp only [thn, inBlk])
        | fail)
      simp [bodyQ, thn, inBlk, resA, resV, go_sem]
      exact rbs_iff.2 ⟨v, (k0.push _).tail⟩
    · have e2 : getS es n = (zE, false) := by simp only [getS, find_idx, hi, Option.bind_some, he, ho]; rfl
      rw [e2]
      rw [ho] at q6
      refine awpL_restE (by simp [go_sem]; exact ⟨rfl, rfl⟩) ?_; try dsimp only [thn, inBlk]
      (repeat' first
        | refine AWP.seq ?_
        | refine AWP.block ?_
        | (refine AWP.skip ?_; try dsimp only [thn, inBlk])
        | (refine AWP.exit ?_; try simp only [thn, inBlk, if_true, reduceIte, Nat.reduceEqDiff])
        | (refine AWP.ret ?_; try dsimp only [thn, inBlk])
        | (refine AWP.condT ?_ ?_; (focus (simp [go_sem, ↓buildE, c1, c2, q1, q2, q3, q4, q6, hj0]; done)))
        | (refine AWP.condF ?_ ?_; (focus (simp [go_sem, ↓buildE, c1, c2, q1, q2, q3, q4, q6, hj0]; done)))
        | (apply AWP.rE; (focus (simp [go_sem, ↓buildE, c1, c2, q1, q2, q3, q4, q6, hj0]; exact ⟨rfl, rfl⟩)); try dsimp only [thn, inBlk])
        | fail)
      simp [bodyQ, thn, inBlk, resA, resV, go_sem, c2]
      exact rbs_iff.2 ⟨v, k1.tail⟩
end
end L09
