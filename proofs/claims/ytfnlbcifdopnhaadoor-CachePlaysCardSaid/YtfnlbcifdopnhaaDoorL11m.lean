import Derived.Test.YtfnlbcifdopnhaaDoorL11l
import Derived.Test.YtfnlbcifdopnhaaDoorAbLibF
open Go Ab Go.Proofs
namespace L11
set_option autoImplicit false
set_option linter.unusedSimpArgs false
set_option linter.unusedVariables false

/-! ### Steps that come in -/
structure Op where
  k : Int
  now : Int
  sv : List UInt8
  c : Cr
  p : Pl
def op (o : Op) : List Value := .int .i64 o.k :: .int .i64 o.now :: tx o.sv :: cr o.c o.p
abbrev zO : Op := ⟨0, 0, [], zC, zP⟩
section
variable {o o' : Op}
theorem op_len : (op o).length = 26 := by simp [op, cr_len]
theorem op_0 : (op o)[0]? = some (.int .i64 o.k) := rfl
theorem op_1 : (op o)[1]? = some (.int .i64 o.now) := rfl
theorem op_2 : (op o)[2]? = some (tx o.sv) := rfl
theorem op_3 : (op o)[3]? = some (tx o.c.cl) := by
  show (cr o.c o.p)[0]? = _; exact cr_0
theorem op_4 : (op o)[4]? = some (.slice o.p.1 o.c.tk.length o.p.2) := by
  show (cr o.c o.p)[1]? = _; exact cr_1
theorem op_5 : (op o)[5]? = some (tx o.c.g.sv) := by
  show (cr o.c o.p)[2]? = _; exact cr_2
theorem op_g0 (h : 0 < (op o).length) : (op o)[0] = .int .i64 o.k := rfl
theorem op_g1 (h : 1 < (op o).length) : (op o)[1] = .int .i64 o.now := rfl
theorem op_g2 (h : 2 < (op o).length) : (op o)[2] = tx o.sv := rfl
theorem op_g3 (h : 3 < (op o).length) : (op o)[3] = tx o.c.cl := by
  have := op_3 (o := o); rw [List.getElem?_eq_getElem h] at this; exact Option.some.inj this
theorem op_g4 (h : 4 < (op o).length) : (op o)[4] = .slice o.p.1 o.c.tk.length o.p.2 := by
  have := op_4 (o := o); rw [List.getElem?_eq_getElem h] at this; exact Option.some.inj this
theorem op_g5 (h : 5 < (op o).length) : (op o)[5] = tx o.c.g.sv := by
  have := op_5 (o := o); rw [List.getElem?_eq_getElem h] at this; exact Option.some.inj this
theorem op_e : ((op o).drop 3).take 23 = cr o.c o.p := by
  show (cr o.c o.p).take 23 = _; exact cr_take
theorem op_take : (op o).take 26 = op o := List.take_of_length_le (by rw [op_len]; omega)
theorem op_ok : (op o).all okCell = true := by
  simp only [op, List.all_cons, cr_ok]; rfl
theorem op_okAll : okAll (op o) = true := by rw [okAll_all]; exact op_ok
theorem op_setL : setL (op o) 0 (op o') = op o' := by
  simpa using setL_full (op o') [] (op o) (by rw [op_len, op_len])
end
set_option maxRecDepth 100000 in
theorem tzO : tzero Tryd.prog 36 = some (.agg (op zO).toArray) := by kernel_rfl
theorem zO_const : (op zO).all constCell = true := by kernel_rfl
set_option maxRecDepth 100000 in
theorem allocO (id : Nat) : allocA Tryd.prog id 36 = some (.pointer (some ⟨id, 0, none⟩), .row (op zO) 36 26 true false) := by
  have h1 : constOk (.agg (op zO).toArray) = true := by simp only [constOk]; exact zO_const
  have h2 : (Value.agg (op zO).toArray).known = true := rfl
  have h3 : (Value.agg (op zO).toArray).cells.toList = op zO := by simp [Value.cells]
  have h4 : (Value.agg (op zO).toArray).cells.size = 26 := by simp only [Value.cells, List.size_toArray]; exact op_len
  simp only [allocA, tzO, h1, if_true, boxA, h2, h3, h4]
attribute [irreducible] op
attribute [go_sem] op_g0 op_g1 op_g2 op_g3 op_g4 op_g5 op_len op_take op_0 op_1 op_2 op_3 op_4 op_5 op_e op_ok op_okAll op_setL

theorem flat_B : ∀ bs : List UInt8, (bs.map fun c : UInt8 => [B c]).flatten = bs.map B
  | [] => rfl
  | c :: bs => by simp [flat_B bs]
theorem bytes_of {h : AHeap} {d : Dt} {v : Value} (q : Has Tryd.prog h d 27 [v]) : ∃ bs : List UInt8, Bytes h v bs := by
  obtain ⟨v', rs, e, h1, h2, h3⟩ := q.sl_inv Tryd.underlying27
  cases e
  have c5 : Tryd.prog.cellsOf 5 = 1 := by kernel_rfl
  rw [c5] at h2
  obtain ⟨bs, rfl, _⟩ := map_of (f := fun c : UInt8 => [B c]) (p := fun _ => True) (rs := rs) fun r hr => by
    obtain ⟨_, d, hd⟩ := h3 r hr
    obtain ⟨n, e, w⟩ := hd.int_inv Tryd.underlying5
    refine ⟨UInt8.ofNat n.toNat, ?_, trivial⟩
    simp [Lit.wf, IntKind.min, IntKind.max, IntKind.signed, IntKind.bits] at w
    have hn : ((UInt8.ofNat n.toNat).toNat : Int) = n := by simp [UInt8.toNat_ofNat]; omega
    rw [e, B, hn]
  refine ⟨bs, ?_⟩
  rw [flat_B, List.length_map] at h2
  rcases h2 with ⟨rfl, h, e⟩ | ⟨i, off, cap, c, e, sz, ti, ro, rfl, q1, q2, q3, q4, q5, q6⟩
  · exact .inl ⟨rfl, List.length_eq_zero_iff.1 h⟩
  · exact .inr ⟨i, off, cap, c, e, sz, ti, ro, rfl, q1, q2, q3, q4, by omega, by simpa using q6⟩
theorem i64_of {P : Program} {h : AHeap} {d : Dt} {t : TypeId} {cs : List Value} (ht : P.underlying t = some (.int .i64)) (q : Has P h d t cs) : ∃ n, cs = [.int .i64 n] ∧ -9223372036854775808 ≤ n ∧ n ≤ 9223372036854775807 := by
  obtain ⟨n, e, w⟩ := q.int_inv ht
  simp [Lit.wf, IntKind.min, IntKind.max, IntKind.signed, IntKind.bits] at w
  exact ⟨n, e, by omega, by omega⟩
unseal gr in
theorem gr_of {h : AHeap} {d : Dt} {cs : List Value} (q : Has Tryd.prog h d 32 cs) : ∃ g : Gt, cs = gr g ∧ g.Wf := by
  have c32 : Tryd.prog.cellsOf 32 = 21 := by kernel_rfl
  have c9 : Tryd.prog.cellsOf 9 = 1 := by kernel_rfl
  have c2 : Tryd.prog.cellsOf 2 = 1 := by kernel_rfl
  have c3 : Tryd.prog.cellsOf 3 = 1 := by kernel_rfl
  have c30 : Tryd.prog.cellsOf 30 = 1 := by kernel_rfl
  have c29 : Tryd.prog.cellsOf 29 = 16 := by kernel_rfl
  have c5 : Tryd.prog.cellsOf 5 = 1 := by kernel_rfl
  obtain ⟨hl, hf⟩ := q.struct_at Tryd.underlying32
  rw [c32] at hl
  obtain ⟨d0, q0⟩ := hf 0 9 0 1 rfl c9
  obtain ⟨d1, q1⟩ := hf 1 29 1 16 rfl c29
  obtain ⟨d2, q2⟩ := hf 2 30 17 1 rfl c30
  obtain ⟨d3, q3⟩ := hf 3 2 18 1 rfl c2
  obtain ⟨d4, q4⟩ := hf 4 2 19 1 rfl c2
  obtain ⟨d5, q5⟩ := hf 5 3 20 1 rfl c3
  obtain ⟨s, e0, w0⟩ := q0.str_inv Tryd.underlying9
  obtain ⟨k, e1, w1⟩ := q1.u8s Tryd.underlying29 Tryd.underlying5 c5 c29
  obtain ⟨no, e2, w2⟩ := q2.int_inv Tryd.underlying30
  obtain ⟨st, e3, w3⟩ := i64_of Tryd.underlying2 q3
  obtain ⟨en, e4, w4⟩ := i64_of Tryd.underlying2 q4
  obtain ⟨fl, e5, w5⟩ := i64_of Tryd.underlying3 q5
  simp [Lit.wf, IntKind.min, IntKind.max, IntKind.signed, IntKind.bits] at w2
  obtain ⟨n, rfl⟩ : ∃ n : Nat, no = n := ⟨no.toNat, by omega⟩
  refine ⟨⟨s, k, n, st, en, fl⟩, ?_, w0, w1, by show n < _; omega, w3, w4, w5⟩
  have h1 : cs = cs.take 1 ++ ((cs.drop 1).take 16 ++ ((cs.drop 17).take 1 ++ ((cs.drop 18).take 1 ++ ((cs.drop 19).take 1 ++ (cs.drop 20).take 1)))) := by
    have f1 : (cs.drop 20).take 1 = cs.drop 20 := List.take_of_length_le (by simp; omega)
    have f0 : cs.drop 20 = (cs.drop 19).drop 1 := by rw [List.drop_drop]
    have f2 : cs.drop 19 = (cs.drop 18).drop 1 := by rw [List.drop_drop]
    have f3 : cs.drop 18 = (cs.drop 17).drop 1 := by rw [List.drop_drop]
    have f4 : cs.drop 17 = (cs.drop 1).drop 16 := by rw [List.drop_drop]
    rw [f1, f0, List.take_append_drop, f2, List.take_append_drop, f3, List.take_append_drop, f4, List.take_append_drop, List.take_append_drop]
  rw [h1]
  simp only [List.drop_zero] at e0
  rw [e0, e1, e2, e3, e4, e5]
  simp only [gr, k16_of w1]
  rfl
unseal cr in
theorem cr_of {h : AHeap} {d : Dt} {cs : List Value} (q : Has Tryd.prog h d 34 cs) : ∃ (c : Cr) (p : Pl), cs = cr c p ∧ c.g.Wf ∧ Bytes h (tkV c p) c.tk := by
  have c34 : Tryd.prog.cellsOf 34 = 23 := by kernel_rfl
  have c32 : Tryd.prog.cellsOf 32 = 21 := by kernel_rfl
  have c9 : Tryd.prog.cellsOf 9 = 1 := by kernel_rfl
  have c27 : Tryd.prog.cellsOf 27 = 1 := by kernel_rfl
  obtain ⟨hl, hf⟩ := q.struct_at Tryd.underlying34
  rw [c34] at hl
  obtain ⟨d0, q0⟩ := hf 0 9 0 1 rfl c9
  obtain ⟨d1, q1⟩ := hf 1 27 1 1 rfl c27
  obtain ⟨d2, q2⟩ := hf 2 32 2 21 rfl c32
  obtain ⟨s, e0, w0⟩ := q0.str_inv Tryd.underlying9
  obtain ⟨g, e2, w2⟩ := gr_of q2
  obtain ⟨x, hx⟩ : ∃ x, (cs.drop 1).take 1 = [x] := ⟨cs[1]'(by omega), by rw [List.drop_eq_getElem_cons (by omega), List.take_succ_cons, List.take_zero]⟩
  rw [hx] at q1
  obtain ⟨bs, hb⟩ := bytes_of q1
  obtain ⟨a, cap, rfl⟩ := hb.val
  refine ⟨⟨s, bs, g⟩, (a, cap), ?_, w2, hb⟩
  have h1 : cs = cs.take 1 ++ ((cs.drop 1).take 1 ++ (cs.drop 2).take 21) := by
    have f1 : (cs.drop 2).take 21 = cs.drop 2 := List.take_of_length_le (by simp; omega)
    have f0 : cs.drop 2 = (cs.drop 1).drop 1 := by rw [List.drop_drop]
    rw [f1, f0, List.take_append_drop, List.take_append_drop]
  rw [h1]
  simp only [List.drop_zero] at e0
  rw [e0, hx, e2]
  rfl
unseal op in
theorem op_of {h : AHeap} {d : Dt} {cs : List Value} (q : Has Tryd.prog h d 36 cs) : ∃ o : Op, cs = op o ∧ o.c.g.Wf ∧ Bytes h (tkV o.c o.p) o.c.tk := by
  have c36 : Tryd.prog.cellsOf 36 = 26 := by kernel_rfl
  have c34 : Tryd.prog.cellsOf 34 = 23 := by kernel_rfl
  have c9 : Tryd.prog.cellsOf 9 = 1 := by kernel_rfl
  have c2 : Tryd.prog.cellsOf 2 = 1 := by kernel_rfl
  have c3 : Tryd.prog.cellsOf 3 = 1 := by kernel_rfl
  obtain ⟨hl, hf⟩ := q.struct_at Tryd.underlying36
  rw [c36] at hl
  obtain ⟨d0, q0⟩ := hf 0 3 0 1 rfl c3
  obtain ⟨d1, q1⟩ := hf 1 2 1 1 rfl c2
  obtain ⟨d2, q2⟩ := hf 2 9 2 1 rfl c9
  obtain ⟨d3, q3⟩ := hf 3 34 3 23 rfl c34
  obtain ⟨n, e0, w0⟩ := i64_of Tryd.underlying3 q0
  obtain ⟨t, e1, w1⟩ := i64_of Tryd.underlying2 q1
  obtain ⟨s, e2, w2⟩ := q2.str_inv Tryd.underlying9
  obtain ⟨c, p, e3, w3, b3⟩ := cr_of q3
  refine ⟨⟨n, t, s, c, p⟩, ?_, w3, b3⟩
  have h1 : cs = cs.take 1 ++ ((cs.drop 1).take 1 ++ ((cs.drop 2).take 1 ++ (cs.drop 3).take 23)) := by
    have f1 : (cs.drop 3).take 23 = cs.drop 3 := List.take_of_length_le (by simp; omega)
    have f0 : cs.drop 3 = (cs.drop 2).drop 1 := by rw [List.drop_drop]
    have f2 : cs.drop 2 = (cs.drop 1).drop 1 := by rw [List.drop_drop]
    rw [f1, f0, List.take_append_drop, f2, List.take_append_drop, List.take_append_drop]
  rw [h1]
  simp only [List.drop_zero] at e0
  rw [e0, e1, e2, e3]
  rfl
def Script (h : AHeap) (v : Value) (l : List Op) : Prop := Sl 26 h v l.length (l.map op).flatten ∧ ∀ o ∈ l, Bytes h (tkV o.c o.p) o.c.tk
theorem ops_of {h : AHeap} {d : Dt} {v : Value} (q : Has Tryd.prog h d 22 [v]) : ∃ l : List Op, l.length ≤ 9223372036854775807 ∧ Script h v l ∧ ∀ o ∈ l, o.c.g.Wf := by
  have c36 : Tryd.prog.cellsOf 36 = 26 := by kernel_rfl
  obtain ⟨v', rs, e, h1, h2, h3⟩ := q.sl_inv Tryd.underlying22
  cases e
  obtain ⟨l, rfl, hl⟩ := map_of (f := op) (p := fun o => o.c.g.Wf ∧ Bytes h (tkV o.c o.p) o.c.tk) (rs := rs) fun r hr => by
    obtain ⟨_, d, hd⟩ := h3 r hr
    exact op_of hd
  rw [c36] at h2
  rw [List.length_map] at h1 h2
  exact ⟨l, h1, ⟨h2, fun o ho => (hl o ho).2⟩, fun o ho => (hl o ho).1⟩
theorem Script.val {h : AHeap} {v : Value} {l : List Op} (k : Script h v l) : ∃ a cap, v = .slice a l.length cap := Sl.val k.1
theorem Script.of_old {h hh : AHeap} {Rr : List Chunk} {v : Value} {l : List Op} (k : Script h v l) (hb : h.base = h.next) (o : Own h.asOld hh Rr) : Script hh v l := ⟨Sl.of_old k.1 hb o, fun x hx => (k.2 x hx).of_old hb o⟩
theorem Script.at {h : AHeap} {v : Value} {l : List Op} (k : Script h v l) {j : Nat} (hj : j < l.length) :
    ∃ i off c e' sz' ti ro, indexAddrP Tryd.prog 22 v (.int .i64 j) = some (.pointer (some ⟨i, off, none⟩)) ∧ h.obj i = some (.row c e' sz' ti ro) ∧ off + 26 ≤ c.length ∧ (c.drop off).take 26 = op l[j] := by
  obtain ⟨i, off, c, e', sz', ti, ro, q1, q2, q3, q4, q5⟩ := Sl.record (P := Tryd.prog) (t := 22) (l := l.map op) Tryd.underlying22 tsz36 k.1 (fun x hx => by obtain ⟨o, _, rfl⟩ := List.mem_map.1 hx; exact op_len) (by simp) hj (kd := .i64)
  rw [List.getElem_map] at q4
  exact ⟨i, off, c, e', sz', ti, ro, q1, q2, q3, q4⟩
structure Small (o : Op) : Prop where
  sv : o.sv.length ≤ 100
  cl : o.c.cl.length ≤ 100
  gs : o.c.g.sv.length ≤ 100
  tk : o.c.tk.length ≤ 500
set_option maxHeartbeats 4000000 in
theorem great_calls {O : Old} {h : AHeap} {R : List Chunk} {v : Value} {l : List Op} (k : Own O h R) (hs : ∀ h, Own O h R → Script h v l) (hn : l.length ≤ 9223372036854775807) :
    ACalls Tryd.prog 7 #[v] h fun r h' => ∃ b, r = .bool b ∧ (b = false → l.length ≤ 60 ∧ ∀ o ∈ l, Small o) ∧ Own O h' R := by
  obtain ⟨va, vc, rfl⟩ := (hs h k).val
  refine ACalls.of_awp (args := [.slice va l.length vc]) (n := 41) Tryd.func7 rfl rfl (by show 1 ≤ 41; omega) ?_
  by_cases h1 : 60 < l.length
  · have h1' : (60 : Int) < l.length := by omega
    (repeat' first
      | refine AWP.seq ?_
      | refine AWP.block ?_
      | (refine AWP.skip ?_; try dsimp only [thn, inBlk])
      | (refine AWP.exit ?_; try simp only [thn, inBlk, if_true, reduceIte, Nat.reduceEqDiff])
      | (refine AWP.ret ?_; try dsimp only [thn, inBlk])
      | (refine AWP.condT ?_ ?_; (focus (simp [go_sem, h1']; done)))
      | (refine AWP.condF ?_ ?_; (focus (simp [go_sem, h1']; done)))
      | (apply AWP.rE; (focus (simp [go_sem, h1']; exact ⟨rfl, rfl⟩)); try dsimp only [thn, inBlk])
      | fail)
    simp [bodyQ, thn, inBlk, resA, resV, go_sem]
    exact k
  have h1' : ¬ (60 : Int) < l.length := by omega
  (repeat' first
    | refine AWP.seq ?_
    | refine AWP.block ?_
    | (refine AWP.skip ?_; try dsimp only [thn, inBlk])
    | (refine AWP.exit ?_; try simp only [thn, inBlk, if_true, reduceIte, Nat.reduceEqDiff])
    | (refine AWP.ret ?_; try dsimp only [thn, inBlk])
    | (refine AWP.condT ?_ ?_; (focus (simp [go_sem, h1']; done)))
    | (refine AWP.condF ?_ ?_; (focus (simp [go_sem, h1']; done)))
    | (apply AWP.rE; (focus (simp [go_sem, h1']; exact ⟨rfl, rfl⟩)); try dsimp only [thn, inBlk])
    | fail)
  refine AWP.loopR [8, 9, 10] (fun m s h' => ∃ j : Nat, j ≤ l.length ∧ m = l.length - j ∧ s = ⟨41, [(8, .slice va l.length vc), (9, .int .i64 l.length), (10, .int .i64 j)]⟩ ∧ (∀ q : Nat, q < j → ∀ o, l[q]? = some o → Small o) ∧ Own O h' R) ?_ ?_
  · exact ⟨_, 0, by omega, rfl, rfl, fun q hq => by omega, k⟩
  rintro m s hB ⟨j, hj, rfl, rfl, hI, kB⟩
  by_cases hjm : j < l.length
  rotate_left
  · have hjm' : ¬ (j : Int) < l.length := by omega
    (repeat' first
      | refine AWP.seq ?_
      | refine AWP.block ?_
      | (refine AWP.skip ?_; try dsimp only [thn, inBlk])
      | (refine AWP.exit ?_; try simp only [thn, inBlk, if_true, reduceIte, Nat.reduceEqDiff])
      | (refine AWP.ret ?_; try dsimp only [thn, inBlk])
      | (refine AWP.condT ?_ ?_; (focus (simp [go_sem, hjm']; done)))
      | (refine AWP.condF ?_ ?_; (focus (simp [go_sem, hjm']; done)))
      | (apply AWP.rE; (focus (simp [go_sem, hjm']; exact ⟨rfl, rfl⟩)); try dsimp only [thn, inBlk])
      | fail)
    simp [bodyQ, thn, inBlk, resA, resV, go_sem]
    refine ⟨⟨by omega, fun o ho => ?_⟩, kB⟩
    obtain ⟨q, hq⟩ := List.mem_iff_getElem?.1 ho
    exact hI q (by have := (List.getElem?_eq_some_iff.1 hq).1; omega) o hq
  have hjm' : (j : Int) < l.length := by omega
  obtain ⟨i0, o0, c0, e0, z0, ti0, ro0, p0, q0, l0, f0⟩ := (hs hB kB).at hjm
  have hoj : l[j]? = some l[j] := List.getElem?_eq_getElem hjm
  generalize l[j] = o at f0 hoj
  have w1 : IntKind.i64.wrap ((j : Int) + 1) = ((j + 1 : Nat) : Int) := by rw [wI64 (by omega) (by omega)]; omega
  have k2 := (kB.push (.row (op o) 36 26 true false)).tail
  by_cases g1 : 100 < o.sv.length
  · have g1' : (100 : Int) < o.sv.length := by omega
    (repeat' first
      | refine AWP.seq ?_
      | refine AWP.block ?_
      | (refine AWP.skip ?_; try dsimp only [thn, inBlk])
      | (refine AWP.exit ?_; try simp only [thn, inBlk, if_true, reduceIte, Nat.reduceEqDiff])
      | (refine AWP.ret ?_; try dsimp only [thn, inBlk])
      | (refine AWP.condT ?_ ?_; (focus (simp [go_sem, hjm', p0, q0, l0, f0, g1', ↓allocO]; done)))
      | (refine AWP.condF ?_ ?_; (focus (simp [go_sem, hjm', p0, q0, l0, f0, g1', ↓allocO]; done)))
      | (apply AWP.rE; (focus (simp [go_sem, hjm', p0, q0, l0, f0, g1', ↓allocO]; exact ⟨rfl, rfl⟩)); try dsimp only [thn, inBlk])
      | fail)
    simp [bodyQ, thn, inBlk, resA, resV, go_sem]
    exact k2
  have g1' : ¬ (100 : Int) < o.sv.length := by omega
  by_cases g2 : 100 < o.c.cl.length
  · have g2' : (100 : Int) < o.c.cl.length := by omega
    (repeat' first
      | refine AWP.seq ?_
      | refine AWP.block ?_
      | (refine AWP.skip ?_; try dsimp only [thn, inBlk])
      | (refine AWP.exit ?_; try simp only [thn, inBlk, if_true, reduceIte, Nat.reduceEqDiff])
      | (refine AWP.ret ?_; try dsimp only [thn, inBlk])
      | (refine AWP.condT ?_ ?_; (focus (simp [go_sem, hjm', p0, q0, l0, f0, g1', g2', ↓allocO]; done)))
      | (refine AWP.condF ?_ ?_; (focus (simp [go_sem, hjm', p0, q0, l0, f0, g1', g2', ↓allocO]; done)))
      | (apply AWP.rE; (focus (simp [go_sem, hjm', p0, q0, l0, f0, g1', g2', ↓allocO]; exact ⟨rfl, rfl⟩)); try dsimp only [thn, inBlk])
      | fail)
    simp [bodyQ, thn, inBlk, resA, resV, go_sem]
    exact k2
  have g2' : ¬ (100 : Int) < o.c.cl.length := by omega
  by_cases g3 : 100 < o.c.g.sv.length
  · have g3' : (100 : Int) < o.c.g.sv.length := by omega
    (repeat' first
      | refine AWP.seq ?_
      | refine AWP.block ?_
      | (refine AWP.skip ?_; try dsimp only [thn, inBlk])
      | (refine AWP.exit ?_; try simp only [thn, inBlk, if_true, reduceIte, Nat.reduceEqDiff])
      | (refine AWP.ret ?_; try dsimp only [thn, inBlk])
      | (refine AWP.condT ?_ ?_; (focus (simp [go_sem, hjm', p0, q0, l0, f0, g1', g2', g3', ↓allocO]; done)))
      | (refine AWP.condF ?_ ?_; (focus (simp [go_sem, hjm', p0, q0, l0, f0, g1', g2', g3', ↓allocO]; done)))
      | (apply AWP.rE; (focus (simp [go_sem, hjm', p0, q0, l0, f0, g1', g2', g3', ↓allocO]; exact ⟨rfl, rfl⟩)); try dsimp only [thn, inBlk])
      | fail)
    simp [bodyQ, thn, inBlk, resA, resV, go_sem]
    exact k2
  have g3' : ¬ (100 : Int) < o.c.g.sv.length := by omega
  by_cases g4 : 500 < o.c.tk.length
  · have g4' : (500 : Int) < o.c.tk.length := by omega
    (repeat' first
      | refine AWP.seq ?_
      | refine AWP.block ?_
      | (refine AWP.skip ?_; try dsimp only [thn, inBlk])
      | (refine AWP.exit ?_; try simp only [thn, inBlk, if_true, reduceIte, Nat.reduceEqDiff])
      | (refine AWP.ret ?_; try dsimp only [thn, inBlk])
      | (refine AWP.condT ?_ ?_; (focus (simp [go_sem, hjm', p0, q0, l0, f0, g1', g2', g3', g4', ↓allocO]; done)))
      | (refine AWP.condF ?_ ?_; (focus (simp [go_sem, hjm', p0, q0, l0, f0, g1', g2', g3', g4', ↓allocO]; done)))
      | (apply AWP.rE; (focus (simp [go_sem, hjm', p0, q0, l0, f0, g1', g2', g3', g4', ↓allocO]; exact ⟨rfl, rfl⟩)); try dsimp only [thn, inBlk])
      | fail)
    simp [bodyQ, thn, inBlk, resA, resV, go_sem]
    exact k2
  have g4' : ¬ (500 : Int) < o.c.tk.length := by omega
  (repeat' first
    | refine AWP.seq ?_
    | refine AWP.block ?_
    | (refine AWP.skip ?_; try dsimp only [thn, inBlk])
    | (refine AWP.exit ?_; try simp only [thn, inBlk, if_true, reduceIte, Nat.reduceEqDiff])
    | (refine AWP.ret ?_; try dsimp only [thn, inBlk])
    | (refine AWP.condT ?_ ?_; (focus (simp [go_sem, hjm', p0, q0, l0, f0, g1', g2', g3', g4', ↓allocO, w1]; done)))
    | (refine AWP.condF ?_ ?_; (focus (simp [go_sem, hjm', p0, q0, l0, f0, g1', g2', g3', g4', ↓allocO, w1]; done)))
    | (apply AWP.rE; (focus (simp [go_sem, hjm', p0, q0, l0, f0, g1', g2', g3', g4', ↓allocO, w1]; exact ⟨rfl, rfl⟩)); try dsimp only [thn, inBlk])
    | fail)
  refine ⟨l.length - (j + 1), by omega, j + 1, by omega, rfl, by simp [go_sem], fun q hq o' ho' => ?_, k2⟩
  by_cases e : q = j
  · subst e
    rw [hoj] at ho'
    rw [← Option.some.inj ho']; exact ⟨by omega, by omega, by omega, by omega⟩
  · exact hI q (by omega) o' ho'
end L11
