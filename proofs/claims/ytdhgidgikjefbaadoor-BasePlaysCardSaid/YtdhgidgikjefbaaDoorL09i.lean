import Derived.Test.YtdhgidgikjefbaaDoorL09h
import Derived.Test.YtdhgidgikjefbaaDoorAbLibF
open Go Ab Go.Proofs
namespace L09
set_option autoImplicit false
set_option linter.unusedSimpArgs false
set_option linter.unusedVariables false

/-! ### Steps that come in -/
structure Op where
  k : Int
  e : En
def op (o : Op) : List Value := .int .i64 o.k :: en o.e
abbrev zO : Op := ⟨0, zE⟩
section
variable {o o' : Op}
theorem op_len : (op o).length = 21 := by simp [op, en_len]
theorem op_0 : (op o)[0]? = some (.int .i64 o.k) := rfl
theorem op_1 : (op o)[1]? = some (tx o.e.nm) := by
  show (en o.e)[0]? = _; exact en_0
theorem op_g0 (h : 0 < (op o).length) : (op o)[0] = .int .i64 o.k := rfl
theorem op_g1 (h : 1 < (op o).length) : (op o)[1] = tx o.e.nm := by
  have := op_1 (o := o); rw [List.getElem?_eq_getElem h] at this; exact Option.some.inj this
theorem op_e : ((op o).drop 1).take 20 = en o.e := by
  show (en o.e).take 20 = _; exact en_take
theorem op_e' : (op o).tail.take 20 = en o.e := by
  show (en o.e).take 20 = _; exact en_take
theorem op_take : (op o).take 21 = op o := List.take_of_length_le (by rw [op_len]; omega)
theorem op_ok : (op o).all okCell = true := by
  simp only [op, List.all_cons, en_ok]; rfl
theorem op_okAll : okAll (op o) = true := by rw [okAll_all]; exact op_ok
theorem op_setL : setL (op o) 0 (op o') = op o' := by
  simpa using setL_full (op o') [] (op o) (by rw [op_len, op_len])
end
theorem tzO : tzero Tryd.prog 36 = some (.agg (op zO).toArray) := by kernel_rfl
theorem zO_const : (op zO).all constCell = true := by kernel_rfl
theorem allocO (id : Nat) : allocA Tryd.prog id 36 = some (.pointer (some ⟨id, 0, none⟩), .row (op zO) 36 21 true false) := by
  have h1 : constOk (.agg (op zO).toArray) = true := by simp only [constOk]; exact zO_const
  have h2 : (Value.agg (op zO).toArray).known = true := rfl
  have h3 : (Value.agg (op zO).toArray).cells.toList = op zO := by simp [Value.cells]
  have h4 : (Value.agg (op zO).toArray).cells.size = 21 := by simp only [Value.cells, List.size_toArray]; exact op_len
  simp only [allocA, tzO, h1, if_true, boxA, h2, h3, h4]
attribute [irreducible] op
attribute [go_sem] op_g0 op_g1 op_len op_take op_0 op_1 op_e op_e' op_ok op_okAll op_setL

structure En.Wf (e : En) : Prop where
  nm : e.nm.length ≤ 9223372036854775807
  ky : e.ky.length = 16
  life : -9223372036854775808 ≤ e.life ∧ e.life ≤ 9223372036854775807
  flags : -9223372036854775808 ≤ e.flags ∧ e.flags ≤ 9223372036854775807
unseal en op in
theorem en_of {h : AHeap} {d : Dt} {cs : List Value} (q : Has Tryd.prog h d 34 cs) : ∃ e : En, cs = en e ∧ e.Wf := by
  have c34 : Tryd.prog.cellsOf 34 = 20 := by kernel_rfl
  have c9 : Tryd.prog.cellsOf 9 = 1 := by kernel_rfl
  have c2 : Tryd.prog.cellsOf 2 = 1 := by kernel_rfl
  have c3 : Tryd.prog.cellsOf 3 = 1 := by kernel_rfl
  have c4 : Tryd.prog.cellsOf 4 = 1 := by kernel_rfl
  have c32 : Tryd.prog.cellsOf 32 = 16 := by kernel_rfl
  have c5 : Tryd.prog.cellsOf 5 = 1 := by kernel_rfl
  obtain ⟨hl, hf⟩ := q.struct_at Tryd.underlying34
  rw [c34] at hl
  obtain ⟨d0, q0⟩ := hf 0 9 0 1 rfl c9
  obtain ⟨d1, q1⟩ := hf 1 32 1 16 rfl c32
  obtain ⟨d2, q2⟩ := hf 2 2 17 1 rfl c2
  obtain ⟨d3, q3⟩ := hf 3 3 18 1 rfl c3
  obtain ⟨d4, q4⟩ := hf 4 4 19 1 rfl c4
  obtain ⟨s, e0, w0⟩ := q0.str_inv Tryd.underlying9
  obtain ⟨k, e1, w1⟩ := q1.u8s Tryd.underlying32 Tryd.underlying5 c5 c32
  obtain ⟨t, e2, w2⟩ := q2.int_inv Tryd.underlying2
  obtain ⟨n, e3, w3⟩ := q3.int_inv Tryd.underlying3
  obtain ⟨b, e4⟩ := q4.bool_inv Tryd.underlying4
  refine ⟨⟨s, k, t, n, b⟩, ?_, w0, w1, ?_, ?_⟩
  · have h1 : cs = cs.take 1 ++ ((cs.drop 1).take 16 ++ ((cs.drop 17).take 1 ++ ((cs.drop 18).take 1 ++ (cs.drop 19).take 1))) := by
      have f1 : (cs.drop 19).take 1 = cs.drop 19 := List.take_of_length_le (by simp; omega)
      have f2 : cs.drop 19 = (cs.drop 18).drop 1 := by rw [List.drop_drop]
      have f3 : cs.drop 18 = (cs.drop 17).drop 1 := by rw [List.drop_drop]
      have f4 : cs.drop 17 = (cs.drop 1).drop 16 := by rw [List.drop_drop]
      rw [f1, f2, List.take_append_drop, f3, List.take_append_drop, f4, List.take_append_drop, List.take_append_drop]
    rw [h1]
    simp only [List.drop_zero] at e0
    rw [e0, e1, e2, e3, e4]
    simp only [en, k16_of w1]
    rfl
  · simp [Lit.wf, IntKind.min, IntKind.max, IntKind.signed, IntKind.bits] at w2; show -9223372036854775808 ≤ t ∧ t ≤ 9223372036854775807; omega
  · simp [Lit.wf, IntKind.min, IntKind.max, IntKind.signed, IntKind.bits] at w3; show -9223372036854775808 ≤ n ∧ n ≤ 9223372036854775807; omega
unseal en op in
theorem op_of {h : AHeap} {d : Dt} {cs : List Value} (q : Has Tryd.prog h d 36 cs) : ∃ o : Op, cs = op o ∧ o.e.Wf := by
  have c36 : Tryd.prog.cellsOf 36 = 21 := by kernel_rfl
  have c34 : Tryd.prog.cellsOf 34 = 20 := by kernel_rfl
  have c3 : Tryd.prog.cellsOf 3 = 1 := by kernel_rfl
  obtain ⟨hl, hf⟩ := q.struct_at Tryd.underlying36
  rw [c36] at hl
  obtain ⟨d0, q0⟩ := hf 0 3 0 1 rfl c3
  obtain ⟨d1, q1⟩ := hf 1 34 1 20 rfl c34
  obtain ⟨n, e0, w0⟩ := q0.int_inv Tryd.underlying3
  obtain ⟨e, e1, w1⟩ := en_of q1
  refine ⟨⟨n, e⟩, ?_, w1⟩
  have h1 : cs = cs.take 1 ++ (cs.drop 1).take 20 := by
    have f1 : (cs.drop 1).take 20 = cs.drop 1 := List.take_of_length_le (by simp; omega)
    rw [f1, List.take_append_drop]
  rw [h1]
  simp only [List.drop_zero] at e0
  rw [e0, e1]
  simp only [op]
  rfl
def Script (h : AHeap) (v : Value) (l : List Op) : Prop := Sl 21 h v l.length (l.map op).flatten
theorem ops_of {h : AHeap} {d : Dt} {v : Value} (q : Has Tryd.prog h d 22 [v]) : ∃ l : List Op, l.length ≤ 9223372036854775807 ∧ Script h v l ∧ ∀ o ∈ l, o.e.Wf := by
  have c36 : Tryd.prog.cellsOf 36 = 21 := by kernel_rfl
  obtain ⟨v', rs, e, h1, h2, h3⟩ := q.sl_inv Tryd.underlying22
  cases e
  obtain ⟨l, rfl, hl⟩ := map_of (f := op) (p := fun o => o.e.Wf) (rs := rs) fun r hr => by
    obtain ⟨_, d, hd⟩ := h3 r hr
    exact op_of hd
  rw [c36] at h2
  rw [List.length_map] at h1 h2
  exact ⟨l, h1, h2, hl⟩
theorem Script.val {h : AHeap} {v : Value} {l : List Op} (k : Script h v l) : ∃ a cap, v = .slice a l.length cap := Sl.val k
theorem Script.of_old {h hh : AHeap} {Rr : List Chunk} {v : Value} {l : List Op} (k : Script h v l) (hb : h.base = h.next) (o : Own h.asOld hh Rr) : Script hh v l := Sl.of_old k hb o
theorem Script.at {h : AHeap} {v : Value} {l : List Op} (k : Script h v l) {j : Nat} (hj : j < l.length) :
    ∃ i off c e' sz' ti ro, indexAddrP Tryd.prog 22 v (.int .i64 j) = some (.pointer (some ⟨i, off, none⟩)) ∧ h.obj i = some (.row c e' sz' ti ro) ∧ off + 21 ≤ c.length ∧ (c.drop off).take 21 = op l[j] := by
  obtain ⟨i, off, c, e', sz', ti, ro, q1, q2, q3, q4, q5⟩ := Sl.record (P := Tryd.prog) (t := 22) (l := l.map op) Tryd.underlying22 tsz36 k (fun x hx => by obtain ⟨o, _, rfl⟩ := List.mem_map.1 hx; exact op_len) (by simp) hj (kd := .i64)
  rw [List.getElem_map] at q4
  exact ⟨i, off, c, e', sz', ti, ro, q1, q2, q3, q4⟩

set_option maxHeartbeats 4000000 in
theorem great_calls {O : Old} {h : AHeap} {R : List Chunk} {v : Value} {l : List Op} (k : Own O h R) (hs : ∀ h, Own O h R → Script h v l) (hn : l.length ≤ 9223372036854775807) :
    ACalls Tryd.prog 7 #[v] h fun r h' => ∃ b, r = .bool b ∧ (b = false → l.length ≤ 60 ∧ ∀ o ∈ l, o.e.nm.length ≤ 300) ∧ Own O h' R := by
  obtain ⟨va, vc, rfl⟩ := (hs h k).val
  refine ACalls.of_awp (args := [.slice va l.length vc]) (n := 20) Tryd.func7 rfl rfl (by show 1 ≤ 20; omega) ?_
  by_cases h1 : 60 < l.length
  · have h1' : (60 : Int) < l.length := by omega
    (repeat' first
      | refine AWP.seq ?_
      | refine AWP.block ?_
      | (refine AWP.skip ?_; try dsimp only [thn, inBlk])
      | (refine AWP.exit ?_; try simp only [thn, inBlk, if_true, reduceIte, Nat.reduceEqDiff])
      | (refine AWP.ret ?_; try dsimp only [thn, inBlk])
      | (refine AWP.condT ?_ ?_; (focus (simp [go_sem, h1']; done)))
      | (refine AWP.condF ?_ ?_; (focus (simp [go_sem, h1']; done)))
      | (apply AWP.rE; (focus (simp [go_sem, h1']; exact ⟨rfl, rfl⟩)); try dsimp only [thn, inBlk])
      | fail)
    simp [bodyQ, thn, inBlk, resA, resV, go_sem]
    exact k
  have h1' : ¬ (60 : Int) < l.length := by omega
  (repeat' first
    | refine AWP.seq ?_
    | refine AWP.block ?_
    | (refine AWP.skip ?_; try dsimp only [thn, inBlk])
    | (refine AWP.exit ?_; try simp only [thn, inBlk, if_true, reduceIte, Nat.reduceEqDiff])
    | (refine AWP.ret ?_; try dsimp only [thn, inBlk])
    | (refine AWP.condT ?_ ?_; (focus (simp [go_sem, h1']; done)))
    | (refine AWP.condF ?_ ?_; (focus (simp [go_sem, h1']; done)))
    | (apply AWP.rE; (focus (simp [go_sem, h1']; exact ⟨rfl, rfl⟩)); try dsimp only [thn, inBlk])
    | fail)
  refine AWP.loopR [8, 9, 10] (fun m s h' => ∃ j : Nat, j ≤ l.length ∧ m = l.length - j ∧ s = ⟨20, [(8, .slice va l.length vc), (9, .int .i64 l.length), (10, .int .i64 j)]⟩ ∧ (∀ q : Nat, q < j → ∀ o, l[q]? = some o → o.e.nm.length ≤ 300) ∧ Own O h' R) ?_ ?_
  · exact ⟨_, 0, by omega, rfl, rfl, fun q hq => by omega, k⟩
  rintro m s hB ⟨j, hj, rfl, rfl, hI, kB⟩
  by_cases hjm : j < l.length
  rotate_left
  · have hjm' : ¬ (j : Int) < l.length := by omega
    (repeat' first
      | refine AWP.seq ?_
      | refine AWP.block ?_
      | (refine AWP.skip ?_; try dsimp only [thn, inBlk])
      | (refine AWP.exit ?_; try simp only [thn, inBlk, if_true, reduceIte, Nat.reduceEqDiff])
      | (refine AWP.ret ?_; try dsimp only [thn, inBlk])
      | (refine AWP.condT ?_ ?_; (focus (simp [go_sem, hjm']; done)))
      | (refine AWP.condF ?_ ?_; (focus (simp [go_sem, hjm']; done)))
      | (apply AWP.rE; (focus (simp [go_sem, hjm']; exact ⟨rfl, rfl⟩)); try dsimp only [thn, inBlk])
      | fail)
    simp [bodyQ, thn, inBlk, resA, resV, go_sem]
    refine ⟨⟨by omega, fun o ho => ?_⟩, kB⟩
    obtain ⟨q, hq⟩ := List.mem_iff_getElem?.1 ho
    exact hI q (by have := (List.getElem?_eq_some_iff.1 hq).1; omega) o hq
  have hjm' : (j : Int) < l.length := by omega
  obtain ⟨i0, o0, c0, e0, z0, ti0, ro0, p0, q0, l0, f0⟩ := (hs hB kB).at hjm
  have hoj : l[j]? = some l[j] := List.getElem?_eq_getElem hjm
  generalize l[j] = o at f0 hoj
  have w1 : IntKind.i64.wrap ((j : Int) + 1) = ((j + 1 : Nat) : Int) := by rw [wI64 (by omega) (by omega)]; omega
  have k2 := (kB.push (.row (op o) 36 21 true false)).tail
  by_cases g1 : 300 < o.e.nm.length
  · have g1' : (300 : Int) < o.e.nm.length := by omega
    (repeat' first
      | refine AWP.seq ?_
      | refine AWP.block ?_
      | (refine AWP.skip ?_; try dsimp only [thn, inBlk])
      | (refine AWP.exit ?_; try simp only [thn, inBlk, if_true, reduceIte, Nat.reduceEqDiff])
      | (refine AWP.ret ?_; try dsimp only [thn, inBlk])
      | (refine AWP.condT ?_ ?_; (focus (simp [go_sem, hjm', p0, q0, l0, f0, g1', ↓allocO]; done)))
      | (refine AWP.condF ?_ ?_; (focus (simp [go_sem, hjm', p0, q0, l0, f0, g1', ↓allocO]; done)))
      | (apply AWP.rE; (focus (simp [go_sem, hjm', p0, q0, l0, f0, g1', ↓allocO]; exact ⟨rfl, rfl⟩)); try dsimp only [thn, inBlk])
      | fail)
    simp [bodyQ, thn, inBlk, resA, resV, go_sem]
    exact k2
  · have g1' : ¬ (300 : Int) < o.e.nm.length := by omega
    (repeat' first
      | refine AWP.seq ?_
      | refine AWP.block ?_
      | (refine AWP.skip ?_; try dsimp only [thn, inBlk])
      | (refine AWP.exit ?_; try simp only [thn, inBlk, if_true, reduceIte, Nat.reduceEqDiff])
      | (refine AWP.ret ?_; try dsimp only [thn, inBlk])
      | (refine AWP.condT ?_ ?_; (focus (simp [go_sem, hjm', p0, q0, l0, f0, g1', ↓allocO, w1]; done)))
      | (refine AWP.condF ?_ ?_; (focus (simp [go_sem, hjm', p0, q0, l0, f0, g1', ↓allocO, w1]; done)))
      | (apply AWP.rE; (focus (simp [go_sem, hjm', p0, q0, l0, f0, g1', ↓allocO, w1]; exact ⟨rfl, rfl⟩)); try dsimp only [thn, inBlk])
      | fail)
    refine ⟨l.length - (j + 1), by omega, j + 1, by omega, rfl, by simp [go_sem], fun q hq o' ho' => ?_, k2⟩
    by_cases e : q = j
    · subst e
      rw [hoj] at ho'
      rw [← Option.some.inj ho']; omega
    · exact hI q (by omega) o' ho'
end L09
