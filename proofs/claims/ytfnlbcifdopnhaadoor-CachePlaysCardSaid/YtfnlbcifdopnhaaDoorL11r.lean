import Derived.Test.YtfnlbcifdopnhaaDoorL11q
open Go Ab Go.Proofs
namespace L11
set_option autoImplicit false
set_option linter.unusedSimpArgs false
set_option linter.unusedVariables false

/-! ### The document's tickets -/
abbrev CX := Cr × Pl
abbrev crx (x : CX) : List Value := cr x.1 x.2
abbrev crs (v : Value) (es : List CX) : Chunk := os 34 23 v es.length (es.map crx).flatten
abbrev rrow (v : Value) : AObj := .row [v] 50 1 true false
def rcs (i : Nat) (es : List CX) : Chunk := ex fun v : Value => star [cell i (rrow v), crs v es]
theorem rcs_iff {O : Old} {h : AHeap} {R : List Chunk} {i : Nat} {es : List CX} : Own O h (rcs i es :: R) ↔ ∃ v, Own O h (cell i (rrow v) :: crs v es :: R) := by
  simp only [rcs, Own.ex_iff, Own.star_iff, List.cons_append, List.nil_append]
theorem crx_all {es : List CX} : ∀ x ∈ es.map crx, x.length = 23 := fun x hx => by
  obtain ⟨a, _, rfl⟩ := List.mem_map.1 hx; exact cr_len
theorem cr_at {O : Old} {h : AHeap} {R : List Chunk} {v : Value} {es : List CX} (k : Own O h (crs v es :: R)) {j : Nat} {e : CX} (hj : es[j]? = some e) {kd : IntKind} :
    ∃ i off c e' sz' ti ro, indexAddrP Tryd.prog 48 v (.int kd j) = some (.pointer (some ⟨i, off, none⟩)) ∧ h.obj i = some (.row c e' sz' ti ro) ∧ off + 23 ≤ c.length ∧ (c.drop off).take 23 = crx e ∧ c[off + 2]? = some (tx e.1.g.sv) ∧ c[off + 21]? = some (.int .i64 e.1.g.en) := by
  obtain ⟨hjl, hje⟩ := List.getElem?_eq_some_iff.1 hj
  obtain ⟨i, off, c, e', sz', ti, ro, q1, q2, q3, q4, q5⟩ := k.os_sl.record (P := Tryd.prog) (t := 48) (l := es.map crx) Tryd.underlying48 tsz34 crx_all (by simp) hjl (kd := kd)
  rw [List.getElem_map, hje] at q4 q5
  exact ⟨i, off, c, e', sz', ti, ro, q1, q2, q3, q4, q5 2 _ cr_2, q5 21 _ cr_21⟩
def idxE (es : List CX) (n : List UInt8) : Option Nat := es.findIdx? fun e => e.1.g.sv == n
def idxV (es : List CX) (n : List UInt8) : Int := match idxE es n with
  | some j => j
  | none => -1
theorem zC_size : (crV (zC, zP)).cells.size = 23 := by simp only [Value.cells, List.size_toArray]; exact cr_len
theorem build1 {id : Nat} {e : CX} : buildSliceA Tryd.prog id 48 1 [(0, crV e)] = some (.slice (some ⟨id, 0, none⟩) 1 1, .row (crx e) 34 23 true false) :=
  buildSlice1 (z := crV (zC, zP)) Tryd.underlying48 tsz34 tzC (by omega) (by rw [zC_size]; omega) (by omega) (by simp only [Value.cells]; exact zC_const) cr_len
theorem build0 {id : Nat} : buildSliceA Tryd.prog id 48 0 [] = some (.slice (some ⟨id, 0, none⟩) 0 0, .row [] 34 23 true false) := by
  rw [buildSliceA_nil]
  simp only [Tryd.underlying48, tsz34, tzC]
  rw [if_pos ⟨by omega, by rw [zC_size]; omega, by omega, by simp only [Value.cells]; exact zC_const⟩]
  simp [Instr.fill, zeros]
section
variable {O : Old} {h : AHeap} {R : List Chunk} {i : Nat} {es : List CX}
theorem at_calls {n : List UInt8} {v : Value} (k : Own O h (cell i (rrow v) :: crs v es :: R)) (hm : es.length ≤ 1000000) :
    ACalls Tryd.prog 24 #[ptr i, tx n] h fun r h' => r = .int .i64 (idxV es n) ∧ h' = h := by
  refine ACalls.of_awp (args := [ptr i, tx n]) (n := 27) Tryd.func24 rfl rfl (by show 2 ≤ 27; omega) ?_
  obtain ⟨va, vc, rfl⟩ := k.b1.os_val
  have ci := k.obj
  (repeat' first
    | refine AWP.seq ?_
    | refine AWP.block ?_
    | (refine AWP.skip ?_; try dsimp only [thn, inBlk])
    | (refine AWP.exit ?_; try simp only [thn, inBlk, if_true, reduceIte, Nat.reduceEqDiff])
    | (refine AWP.ret ?_; try dsimp only [thn, inBlk])
    | (refine AWP.condT ?_ ?_; (focus (simp [go_sem]; done)))
    | (refine AWP.condF ?_ ?_; (focus (simp [go_sem]; done)))
    | (apply AWP.rE; (focus (simp [go_sem]; exact ⟨rfl, rfl⟩)); try dsimp only [thn, inBlk])
    | fail)
  refine AWP.loopR [0, 1, 5] (fun m s h' => ∃ j : Nat, j ≤ es.length ∧ m = es.length - j ∧ s = ⟨27, [(0, ptr i), (1, tx n), (5, .int .i64 j)]⟩ ∧ (∀ x e, x < j → es[x]? = some e → e.1.g.sv ≠ n) ∧ h' = h) ?_ ?_
  · exact ⟨_, 0, by omega, rfl, rfl, fun x e hx => by omega, rfl⟩
  rintro m s hB ⟨j, hj, rfl, rfl, hI, rfl⟩
  by_cases hjm : j < es.length
  · have hjm' : (j : Int) < es.length := by omega
    have hj' : es[j]? = some es[j] := List.getElem?_eq_getElem hjm
    obtain ⟨bi, bo, c, e', sz, ti, ro, q1, q2, q3, q4, q5, q6⟩ := cr_at k.b1 hj' (kd := .i64)
    have w1 : IntKind.i64.wrap ((j : Int) + 1) = ((j + 1 : Nat) : Int) := by rw [wI64 (by omega) (by omega)]; omega
    by_cases hn : es[j].1.g.sv = n
    · have e1 : idxE es n = some j := by
        unfold idxE
        rw [List.findIdx?_eq_some_iff_getElem]
        exact ⟨hjm, by simpa using hn, fun x hx => by simpa using hI x _ hx (List.getElem?_eq_getElem (by omega))⟩
      have e2 : idxV es n = j := by simp only [idxV, e1]
      have hn' : (es[j].1.g.sv == n) = true := by simpa using hn
      rw [e2]
      generalize es[j] = e at *
      (repeat' first
        | refine AWP.seq ?_
        | refine AWP.block ?_
        | (refine AWP.skip ?_; try dsimp only [thn, inBlk])
        | (refine AWP.exit ?_; try simp only [thn, inBlk, if_true, reduceIte, Nat.reduceEqDiff])
        | (refine AWP.ret ?_; try dsimp only [thn, inBlk])
        | (refine AWP.condT ?_ ?_; (focus (simp [go_sem, ci, hjm', q1, q2, q5, hn']; done)))
        | (refine AWP.condF ?_ ?_; (focus (simp [go_sem, ci, hjm', q1, q2, q5, hn']; done)))
        | (apply AWP.rE; (focus (simp [go_sem, ci, hjm', q1, q2, q5, hn']; exact ⟨rfl, rfl⟩)); try dsimp only [thn, inBlk])
        | fail)
      simp [bodyQ, thn, inBlk, resA, resV, go_sem]
    · have hn' : (es[j].1.g.sv == n) = false := by simpa using hn
      generalize es[j] = e at *
      (repeat' first
        | refine AWP.seq ?_
        | refine AWP.block ?_
        | (refine AWP.skip ?_; try dsimp only [thn, inBlk])
        | (refine AWP.exit ?_; try simp only [thn, inBlk, if_true, reduceIte, Nat.reduceEqDiff])
        | (refine AWP.ret ?_; try dsimp only [thn, inBlk])
        | (refine AWP.condT ?_ ?_; (focus (simp [go_sem, ci, hjm', q1, q2, q5, hn', w1]; done)))
        | (refine AWP.condF ?_ ?_; (focus (simp [go_sem, ci, hjm', q1, q2, q5, hn', w1]; done)))
        | (apply AWP.rE; (focus (simp [go_sem, ci, hjm', q1, q2, q5, hn', w1]; exact ⟨rfl, rfl⟩)); try dsimp only [thn, inBlk])
        | fail)
      refine ⟨es.length - (j + 1), by omega, j + 1, by omega, rfl, by simp [go_sem], fun x e' hx hx' => ?_, rfl⟩
      by_cases e1 : x = j
      · subst e1; rw [hj'] at hx'; rw [← Option.some.inj hx']; exact hn
      · exact hI x e' (by omega) hx'
  · have hjm' : ¬ (j : Int) < es.length := by omega
    have e1 : idxE es n = none := by
      unfold idxE
      rw [List.findIdx?_eq_none_iff]
      intro x hx
      obtain ⟨q, hq⟩ := List.mem_iff_getElem?.1 hx
      simpa using hI q x (by have := (List.getElem?_eq_some_iff.1 hq).1; omega) hq
    have e2 : idxV es n = -1 := by simp only [idxV, e1]
    rw [e2]
    (repeat' first
      | refine AWP.seq ?_
      | refine AWP.block ?_
      | (refine AWP.skip ?_; try dsimp only [thn, inBlk])
      | (refine AWP.exit ?_; try simp only [thn, inBlk, if_true, reduceIte, Nat.reduceEqDiff])
      | (refine AWP.ret ?_; try dsimp only [thn, inBlk])
      | (refine AWP.condT ?_ ?_; (focus (simp [go_sem, ci, hjm']; done)))
      | (refine AWP.condF ?_ ?_; (focus (simp [go_sem, ci, hjm']; done)))
      | (apply AWP.rE; (focus (simp [go_sem, ci, hjm']; exact ⟨rfl, rfl⟩)); try dsimp only [thn, inBlk])
      | fail)
    simp [bodyQ, thn, inBlk, resA, resV, go_sem]
theorem idx_some {n : List UInt8} {j : Nat} (h : idxE es n = some j) : ∃ e, es[j]? = some e ∧ e.1.g.sv = n ∧ idxV es n = j := by
  have h2 := h
  unfold idxE at h
  rw [List.findIdx?_eq_some_iff_getElem] at h
  obtain ⟨h1, h3, _⟩ := h
  exact ⟨es[j], List.getElem?_eq_getElem h1, by simpa using h3, by simp only [idxV, h2]⟩
theorem find_idx {n : List UInt8} : es.find? (fun e => e.1.g.sv == n) = (idxE es n).bind fun j => es[j]? := by
  cases hi : idxE es n with
  | none =>
    have := hi
    unfold idxE at this
    rw [List.findIdx?_eq_none_iff] at this
    rw [Option.bind_none, List.find?_eq_none]
    intro x hx; simpa using this x hx
  | some j =>
    have h2 := hi
    unfold idxE at h2
    rw [List.findIdx?_eq_some_iff_getElem] at h2
    obtain ⟨h1, h3, h4⟩ := h2
    rw [Option.bind_some, List.getElem?_eq_getElem h1]
    rw [List.find?_eq_some_iff_getElem]
    exact ⟨h3, j, h1, rfl, fun x hx => by simpa using h4 x hx⟩
def findS (es : List CX) (n : List UInt8) (now : Int) : CX × Bool := match es.find? (fun e => e.1.g.sv == n) with
  | some e => if e.1.g.en < now then ((zC, zP), false) else (e, true)
  | none => ((zC, zP), false)
set_option maxHeartbeats 8000000 in
theorem rfind_calls {n : List UInt8} {now : Int} (k : Own O h (rcs i es :: R)) (hm : es.length ≤ 1000000) :
    ACalls Tryd.prog 16 #[ptr i, tx n, .int .i64 now] h fun r h' => r = .tuple #[crV (findS es n now).1, .bool (findS es n now).2] ∧ Own O h' (rcs i es :: R) := by
  refine ACalls.of_awp (args := [ptr i, tx n, .int .i64 now]) (n := 35) Tryd.func16 rfl rfl (by show 3 ≤ 35; omega) ?_
  obtain ⟨v, k0⟩ := rcs_iff.1 k
  have k1 := k0.push (.row (cr zC zP) 34 23 true false)
  have c1 := k1.b1.obj
  have c2 := k1.obj
  (repeat' first
    | refine AWP.seq ?_
    | refine AWP.block ?_
    | (refine AWP.skip ?_; try dsimp only [thn, inBlk])
    | (refine AWP.exit ?_; try simp only [thn, inBlk, if_true, reduceIte, Nat.reduceEqDiff])
    | (refine AWP.ret ?_; try dsimp only [thn, inBlk])
    | (refine AWP.condT ?_ ?_; (focus (simp [go_sem, ↓allocC]; done)))
    | (refine AWP.condF ?_ ?_; (focus (simp [go_sem, ↓allocC]; done)))
    | (apply AWP.rE; (focus (simp [go_sem, ↓allocC]; exact ⟨rfl, rfl⟩)); try dsimp only [thn, inBlk])
    | fail)
  refine AWP.callE (by simp [go_sem]; exact ⟨rfl, rfl, rfl, rfl, rfl⟩) (by kernel_rfl) ?_
  refine (at_calls (n := n) (k1.b2.b2) hm).mono ?_
  rintro r h2 ⟨rfl, rfl⟩
  cases hi : idxE es n with
  | none =>
    have e1 : idxV es n = -1 := by simp only [idxV, hi]
    have e2 : findS es n now = ((zC, zP), false) := by simp only [findS, find_idx, hi]; rfl
    rw [e1, e2]
    refine awpL_restE (by simp [go_sem]; exact ⟨rfl, rfl⟩) ?_; try dsimp only [thn, inBlk]
    (repeat' first
      | refine AWP.seq ?_
      | refine AWP.block ?_
      | (refine AWP.skip ?_; try dsimp only [thn, inBlk])
      | (refine AWP.exit ?_; try simp only [thn, inBlk, if_true, reduceIte, Nat.reduceEqDiff])
      | (refine AWP.ret ?_; try dsimp only [thn, inBlk])
      | (refine AWP.condT ?_ ?_; (focus (simp [go_sem, ↓buildC, c2]; done)))
      | (refine AWP.condF ?_ ?_; (focus (simp [go_sem, ↓buildC, c2]; done)))
      | (apply AWP.rE; (focus (simp [go_sem, ↓buildC, c2]; exact ⟨rfl, rfl⟩)); try dsimp only [thn, inBlk])
      | fail)
    simp [bodyQ, thn, inBlk, resA, resV, go_sem, c2]
    exact rcs_iff.2 ⟨v, k1.tail⟩
  | some j =>
    obtain ⟨e, he, hn, e1⟩ := idx_some hi
    have hj0 : ¬ (j : Int) < 0 := by omega
    rw [e1]
    obtain ⟨bi, bo, c, e', sz, ti, ro, q1, q2, q3, q4, q5, q6⟩ := cr_at k1.b2 he (kd := .i64)
    by_cases ho : e.1.g.en < now
    · have e2 : findS es n now = ((zC, zP), false) := by simp only [findS, find_idx, hi, Option.bind_some, he, ho]; rfl
      rw [e2]
      refine awpL_restE (by simp [go_sem]; exact ⟨rfl, rfl⟩) ?_; try dsimp only [thn, inBlk]
      (repeat' first
        | refine AWP.seq ?_
        | refine AWP.block ?_
        | (refine AWP.skip ?_; try dsimp only [thn, inBlk])
        | (refine AWP.exit ?_; try simp only [thn, inBlk, if_true, reduceIte, Nat.reduceEqDiff])
        | (refine AWP.ret ?_; try dsimp only [thn, inBlk])
        | (refine AWP.condT ?_ ?_; (focus (simp [go_sem, ↓buildC, c1, c2, q1, q2, q3, q4, q6, hj0, ho]; done)))
        | (refine AWP.condF ?_ ?_; (focus (simp [go_sem, ↓buildC, c1, c2, q1, q2, q3, q4, q6, hj0, ho]; done)))
        | (apply AWP.rE; (focus (simp [go_sem, ↓buildC, c1, c2, q1, q2, q3, q4, q6, hj0, ho]; exact ⟨rfl, rfl⟩)); try dsimp only [thn, inBlk])
        | fail)
      simp [bodyQ, thn, inBlk, resA, resV, go_sem, c2]
      exact rcs_iff.2 ⟨v, k1.tail⟩
    · have e2 : findS es n now = (e, true) := by simp only [findS, find_idx, hi, Option.bind_some, he, ho]; rfl
      rw [e2]
      refine awpL_restE (by simp [go_sem]; exact ⟨rfl, rfl⟩) ?_; try dsimp only [thn, inBlk]
      (repeat' first
        | refine AWP.seq ?_
        | refine AWP.block ?_
        | (refine AWP.skip ?_; try dsimp only [thn, inBlk])
        | (refine AWP.exit ?_; try simp only [thn, inBlk, if_true, reduceIte, Nat.reduceEqDiff])
        | (refine AWP.ret ?_; try dsimp only [thn, inBlk])
        | (refine AWP.condT ?_ ?_; (focus (simp [go_sem, ↓buildC, c1, c2, q1, q2, q3, q4, q6, hj0, ho]; done)))
        | (refine AWP.condF ?_ ?_; (focus (simp [go_sem, ↓buildC, c1, c2, q1, q2, q3, q4, q6, hj0, ho]; done)))
        | (apply AWP.rE; (focus (simp [go_sem, ↓buildC, c1, c2, q1, q2, q3, q4, q6, hj0, ho]; exact ⟨rfl, rfl⟩)); try dsimp only [thn, inBlk])
        | fail)
      simp [bodyQ, thn, inBlk, resA, resV, go_sem]
      exact rcs_iff.2 ⟨v, (k0.push _).tail⟩
theorem crS_piece {O : Old} {h : AHeap} {R : List Chunk} {v : Value} {es : List CX} (k : Own O h (crs v es :: R)) {lo hi : Nat} (h1 : lo ≤ hi) (h2 : hi ≤ es.length)
    {l u : Option Value} (hl : (l = none ∧ lo = 0) ∨ ∃ kd, l = some (.int kd lo)) (hu : (u = none ∧ hi = es.length) ∨ ∃ kd, u = some (.int kd hi)) :
    sliceR Tryd.prog h 48 v l u none = some (sliceV 23 lo hi v) ∧ srcCells h 23 (sliceV 23 lo hi v) = some (hi - lo, (((es.drop lo).take (hi - lo)).map crx).flatten) := by
  obtain ⟨s1, s2⟩ := k.os_sl.piece Tryd.underlying48 tsz34 h1 h2 hl hu
  refine ⟨s1, ?_⟩
  rw [s2.src, flat_piece lo (hi - lo) crx_all (by rw [List.length_map]; omega)]
  simp only [List.map_drop, List.map_take]
theorem cr_flat_len {es : List CX} : (es.map crx).flatten.length = es.length * 23 := by
  rw [flat_length crx_all, List.length_map]
theorem cr_flat_ok {es : List CX} : (es.map crx).flatten.all okCell = true := by
  rw [List.all_eq_true]
  intro x hx
  obtain ⟨y, hy, hxy⟩ := List.mem_flatten.1 hx
  obtain ⟨e, _, rfl⟩ := List.mem_map.1 hy
  exact List.all_eq_true.1 cr_ok x hxy
def dropS (es : List CX) (n : List UInt8) : List CX := match idxE es n with
  | some j => es.eraseIdx j
  | none => es
set_option maxHeartbeats 8000000 in
theorem rdrop_calls {n : List UInt8} (k : Own O h (rcs i es :: R)) (hm : es.length ≤ 1000) :
    ACalls Tryd.prog 14 #[ptr i, tx n] h fun r h' => r = .bool (idxE es n).isSome ∧ Own O h' (rcs i (dropS es n) :: R) := by
  refine ACalls.of_awp (args := [ptr i, tx n]) (n := 30) Tryd.func14 rfl rfl (by show 2 ≤ 30; omega) ?_
  obtain ⟨v, k0⟩ := rcs_iff.1 k
  (repeat' first
    | refine AWP.seq ?_
    | refine AWP.block ?_
    | (refine AWP.skip ?_; try dsimp only [thn, inBlk])
    | (refine AWP.exit ?_; try simp only [thn, inBlk, if_true, reduceIte, Nat.reduceEqDiff])
    | (refine AWP.ret ?_; try dsimp only [thn, inBlk])
    | (refine AWP.condT ?_ ?_; (focus (simp [go_sem]; done)))
    | (refine AWP.condF ?_ ?_; (focus (simp [go_sem]; done)))
    | (apply AWP.rE; (focus (simp [go_sem]; exact ⟨rfl, rfl⟩)); try dsimp only [thn, inBlk])
    | fail)
  refine AWP.callE (by simp [go_sem]; exact ⟨rfl, rfl, rfl, rfl, rfl⟩) (by kernel_rfl) ?_
  refine (at_calls (n := n) k0 (by omega)).mono ?_
  rintro r h2 ⟨rfl, rfl⟩
  cases hi : idxE es n with
  | none =>
    have e1 : idxV es n = -1 := by simp only [idxV, hi]
    have e2 : dropS es n = es := by simp only [dropS, hi]
    rw [e1, e2]
    refine awpL_restE (by simp [go_sem]; exact ⟨rfl, rfl⟩) ?_; try dsimp only [thn, inBlk]
    (repeat' first
      | refine AWP.seq ?_
      | refine AWP.block ?_
      | (refine AWP.skip ?_; try dsimp only [thn, inBlk])
      | (refine AWP.exit ?_; try simp only [thn, inBlk, if_true, reduceIte, Nat.reduceEqDiff])
      | (refine AWP.ret ?_; try dsimp only [thn, inBlk])
      | (refine AWP.condT ?_ ?_; (focus (simp [go_sem]; done)))
      | (refine AWP.condF ?_ ?_; (focus (simp [go_sem]; done)))
      | (apply AWP.rE; (focus (simp [go_sem]; exact ⟨rfl, rfl⟩)); try dsimp only [thn, inBlk])
      | fail)
    simp [bodyQ, thn, inBlk, resA, resV, go_sem]
    exact k
  | some j =>
    obtain ⟨e, he, hn, e1⟩ := idx_some hi
    have e2 : dropS es n = es.eraseIdx j := by simp only [dropS, hi]
    have hjl : j < es.length := (List.getElem?_eq_some_iff.1 he).1
    have hj0 : ¬ (j : Int) < 0 := by omega
    rw [e1, e2]
    have c0 := k0.obj
    obtain ⟨j1, hj1⟩ : ∃ j1, j1 = j + 1 := ⟨_, rfl⟩
    have w1 : IntKind.i64.wrap ((j : Int) + 1) = (j1 : Int) := by rw [wI64 (by omega) (by omega)]; omega
    have k1 : Own O (h2.push (.row [] 34 23 true false)) (os 34 23 (.slice (some ⟨h2.next, 0, none⟩) 0 0) 0 [] :: cell i (rrow v) :: crs v es :: R) := (k0.push (.row [] 34 23 true false)).os_mk (Nat.le_refl _) (by simp) (by simp)
    have c1 := k1.b1.obj
    obtain ⟨s1, t1⟩ := crS_piece k1.b2 (lo := 0) (hi := j) (by omega) (by omega) (l := none) (u := some (.int .i64 (j : Int))) (.inl ⟨rfl, rfl⟩) (.inr ⟨.i64, rfl⟩)
    obtain ⟨s2, _⟩ := crS_piece k1.b2 (lo := j1) (hi := es.length) (by omega) (by omega) (l := some (.int .i64 (j1 : Int))) (u := none) (.inr ⟨.i64, rfl⟩) (.inl ⟨rfl, rfl⟩)
    obtain ⟨v3, h3, e3, k3⟩ := Own.app (P := Tryd.prog) (t := 48) (xt := 48) Tryd.underlying48 tsz34 tby34 tzC nI48 (by omega) (by omega) zC_size k1 t1 (by rw [cr_flat_len]; simp; omega) cr_flat_ok (by omega)
    have c3 := k3.b1.obj
    obtain ⟨s2', t2⟩ := crS_piece k3.b2 (lo := j1) (hi := es.length) (by omega) (by omega) (l := some (.int .i64 (j1 : Int))) (u := none) (.inr ⟨.i64, rfl⟩) (.inl ⟨rfl, rfl⟩)
    obtain ⟨v4, h4, e4, k4⟩ := Own.app (P := Tryd.prog) (t := 48) (xt := 48) Tryd.underlying48 tsz34 tby34 tzC nI48 (by omega) (by omega) zC_size k3 t2 (by rw [cr_flat_len]; simp) cr_flat_ok (by omega)
    obtain ⟨va4, vc4, rfl⟩ := k4.os_val
    have c4 := k4.b1.obj
    have b0 := build0 (id := h2.next)
    have k5 := k4.b1.set (rrow (.slice va4 (0 + (j - 0) + (es.length - j1)) vc4))
    refine awpL_restE (by simp [go_sem]; exact ⟨rfl, rfl⟩) ?_; try dsimp only [thn, inBlk]
    (repeat' first
      | refine AWP.seq ?_
      | refine AWP.block ?_
      | (refine AWP.skip ?_; try dsimp only [thn, inBlk])
      | (refine AWP.exit ?_; try simp only [thn, inBlk, if_true, reduceIte, Nat.reduceEqDiff])
      | (refine AWP.ret ?_; try dsimp only [thn, inBlk])
      | (refine AWP.condT ?_ ?_; (focus (simp [go_sem, hj0]; done)))
      | (refine AWP.condF ?_ ?_; (focus (simp [go_sem, hj0]; done)))
      | (apply AWP.rE; (focus (simp [go_sem, hj0]; exact ⟨rfl, rfl⟩)); try dsimp only [thn, inBlk])
      | fail)
    refine AWP.draw hmix [.n 0 [0], .n 1 [], .n 2 [0], .n 3 [13], .n 4 [14], .n 5 [15], .n 6 [5], .n 7 [16, 17], .n 9 [0], .n 10 [20], .n 11 [21], .n 12 [22], .n 13 [5], .n 14 [24], .n 15 [23, 25], .w 8 [12, 18] [12, 15], .w 16 [19, 26] [], .n 17 [11], .n 18 [28], .w 19 [29, 27] []] (by kernel_rfl) ?_
    refine awpD_writeR 15 (by rfl) (by rfl) (by simp [go_sem, ↓b0, c1, c3, s1, s2, s2', e3, w1]; exact ⟨rfl, rfl, rfl⟩) (by rfl) (by rfl) (by simp [go_sem]) (by simp [go_sem, ↓b0, c1, c3, s1, s2, s2', e3, w1]; exact ⟨rfl, rfl⟩) (by simp [still, go_sem, ↓b0, c1, c3, s1, s2, s2', e3, w1]) ?_
    refine awpD_writeR 0 (by rfl) (by rfl) (by simp [go_sem, e4]; exact ⟨rfl, rfl, rfl⟩) (by rfl) (by rfl) (by simp [go_sem]) (by simp [go_sem, e4]; exact ⟨rfl, rfl⟩) (by simp [still, go_sem, e4]) ?_
    refine awpD_writeR 2 (by rfl) (by rfl) (by simp [go_sem, c4]; exact ⟨rfl, rfl, rfl⟩) (by rfl) (by rfl) (by simp [go_sem]) (by simp [go_sem, c4]; exact ⟨rfl, rfl⟩) (by simp [still, go_sem, c4]) ?_
    refine awpD_restR (by rfl) (by simp [go_sem]; exact ⟨rfl, rfl, rfl⟩) ?_; try dsimp only [thn, inBlk]
    (repeat' first
      | refine AWP.seq ?_
      | refine AWP.block ?_
      | (refine AWP.skip ?_; try dsimp only [thn, inBlk])
      | (refine AWP.exit ?_; try simp only [thn, inBlk, if_true, reduceIte, Nat.reduceEqDiff])
      | (refine AWP.ret ?_; try dsimp only [thn, inBlk])
      | (refine AWP.condT ?_ ?_; (focus (simp [go_sem]; done)))
      | (refine AWP.condF ?_ ?_; (focus (simp [go_sem]; done)))
      | (apply AWP.rE; (focus (simp [go_sem]; exact ⟨rfl, rfl⟩)); try dsimp only [thn, inBlk])
      | fail)
    simp [bodyQ, thn, inBlk, resA, resV, go_sem]
    have e5 : ([] ++ ((es.drop 0).take (j - 0)).map crx |>.flatten) ++ (((es.drop j1).take (es.length - j1)).map crx).flatten = ((es.eraseIdx j).map crx).flatten := by
      rw [List.eraseIdx_eq_take_drop_succ, List.map_append, List.flatten_append, hj1, List.take_of_length_le (l := es.drop (j + 1)) (by simp)]
      simp
    have e6 : 0 + (j - 0) + (es.length - j1) = (es.eraseIdx j).length := by rw [List.length_eraseIdx_of_lt hjl]; omega
    have e7 : j + (es.length - j1) = (es.eraseIdx j).length := by rw [← e6]; omega
    have k6 := k5
    simp only [List.nil_append] at e5 k6
    rw [e5, e6] at k6
    rw [e7]
    exact rcs_iff.2 ⟨_, k6.d2⟩
end
end L11
