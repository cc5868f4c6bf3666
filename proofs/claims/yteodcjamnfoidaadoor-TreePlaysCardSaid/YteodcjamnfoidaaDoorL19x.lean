import Derived.Test.YteodcjamnfoidaaDoorL19w
import Derived.Test.YteodcjamnfoidaaDoorAbLibF
open Go Ab Go.Proofs
namespace L19
set_option autoImplicit false
set_option linter.unusedSimpArgs false
set_option linter.unusedVariables false

/-! ### Steps that come in -/
structure Oh where
  kind : Int
  mode : Int
  who : List UInt8
  path : List UInt8
  owner : List UInt8
def preO (o : Oh) : List Value := [.int .i64 o.kind, .int .i64 o.mode, tx o.who, tx o.path, tx o.owner]
abbrev Op := Oh × List UInt8
abbrev orow (o : Op) (a : Option Addr) (cap : Nat) : List Value := [.int .i64 o.1.kind, .int .i64 o.1.mode, tx o.1.who, tx o.1.path, tx o.1.owner, .slice a o.2.length cap]
theorem flat_B : ∀ bs : List UInt8, (bs.map fun c : UInt8 => [B c]).flatten = bs.map B
  | [] => rfl
  | c :: bs => by simp [flat_B bs]
set_option maxRecDepth 10000 in
theorem bytes_of {h : AHeap} {d : Dt} {v : Value} (q : Has Tryd.prog h d 22 [v]) : ∃ bs : List UInt8, Bytes h v bs := by
  obtain ⟨v', rs, e, h1, h2, h3⟩ := q.sl_inv Tryd.underlying22
  cases e
  have c5 : Tryd.prog.cellsOf 5 = 1 := by kernel_rfl
  rw [c5] at h2
  obtain ⟨bs, rfl, _⟩ := map_of (f := fun c : UInt8 => [B c]) (p := fun _ => True) (rs := rs) fun r hr => by
    obtain ⟨_, d, hd⟩ := h3 r hr
    obtain ⟨n, e, w⟩ := hd.int_inv Tryd.underlying5
    refine ⟨UInt8.ofNat n.toNat, ?_, trivial⟩
    simp [Lit.wf, IntKind.min, IntKind.max, IntKind.signed, IntKind.bits] at w
    rw [e, B]
    congr 2
    simp [UInt8.toNat_ofNat]; omega
  refine ⟨bs, ?_⟩
  rw [flat_B, List.length_map] at h2
  rcases h2 with ⟨rfl, h, e⟩ | ⟨i, off, cap, c, e, sz, ti, ro, rfl, q1, q2, q3, q4, q5, q6⟩
  · exact .inl ⟨rfl, List.length_eq_zero_iff.1 h⟩
  · exact .inr ⟨i, off, cap, c, e, sz, ti, ro, rfl, q1, q2, q3, q4, by omega, by simpa using q6⟩
theorem op_of {h : AHeap} {d : Dt} {cs : List Value} (q : Has Tryd.prog h d 37 cs) : ∃ (o : Op) (a : Option Addr) (cap : Nat), cs = orow o a cap ∧ Bytes h (.slice a o.2.length cap) o.2 := by
  have c37 : Tryd.prog.cellsOf 37 = 6 := by kernel_rfl
  have c3 : Tryd.prog.cellsOf 3 = 1 := by kernel_rfl
  have c9 : Tryd.prog.cellsOf 9 = 1 := by kernel_rfl
  have c22 : Tryd.prog.cellsOf 22 = 1 := by kernel_rfl
  obtain ⟨hl, hf⟩ := q.struct_at Tryd.underlying37
  rw [c37] at hl
  obtain ⟨d0, q0⟩ := hf 0 3 0 1 rfl c3
  obtain ⟨d1, q1⟩ := hf 1 3 1 1 rfl c3
  obtain ⟨d2, q2⟩ := hf 2 9 2 1 rfl c9
  obtain ⟨d3, q3⟩ := hf 3 9 3 1 rfl c9
  obtain ⟨d4, q4⟩ := hf 4 9 4 1 rfl c9
  obtain ⟨d5, q5⟩ := hf 5 22 5 1 rfl c22
  obtain ⟨n0, e0, _⟩ := q0.int_inv Tryd.underlying3
  obtain ⟨n1, e1, _⟩ := q1.int_inv Tryd.underlying3
  obtain ⟨s2, e2, _⟩ := q2.str_inv Tryd.underlying9
  obtain ⟨s3, e3, _⟩ := q3.str_inv Tryd.underlying9
  obtain ⟨s4, e4, _⟩ := q4.str_inv Tryd.underlying9
  match cs, hl with
  | [x0, x1, x2, x3, x4, x5], _ =>
    simp at e0 e1 e2 e3 e4 q5
    obtain ⟨bs, hb⟩ := bytes_of q5
    obtain ⟨a, cap, rfl⟩ := hb.val
    exact ⟨(⟨n0, n1, s2, s3, s4⟩, bs), a, cap, by rw [e0, e1, e2, e3, e4], hb⟩
theorem ops_of {h : AHeap} {d : Dt} {v : Value} (q : Has Tryd.prog h d 34 [v]) : ∃ l : List Op, l.length ≤ 9223372036854775807 ∧ BR preO 6 h v l := by
  have c37 : Tryd.prog.cellsOf 37 = 6 := by kernel_rfl
  obtain ⟨v', rs, e, h1, h2, h3⟩ := q.sl_inv Tryd.underlying34
  cases e
  obtain ⟨l, rfl, hl⟩ := map_of (f := fun q : Op × (Option Addr × Nat) => orow q.1 q.2.1 q.2.2) (p := fun q => Bytes h (.slice q.2.1 q.1.2.length q.2.2) q.1.2) (rs := rs) fun r hr => by
    obtain ⟨_, d, hd⟩ := h3 r hr
    obtain ⟨o, a, cap, e, b⟩ := op_of hd
    exact ⟨(o, (a, cap)), e, b⟩
  rw [c37] at h2
  rw [List.length_map] at h1 h2
  have er : rcells preO (l.map (·.1)) (l.map (·.2)) = l.map fun q : Op × (Option Addr × Nat) => orow q.1 q.2.1 q.2.2 := by
    simp only [rcells, List.zipWith_map]
    apply List.ext_getElem?
    intro m
    rw [List.getElem?_zipWith, List.getElem?_map]
    cases l[m]? <;> rfl
  refine ⟨l.map (·.1), by simpa using h1, ⟨l.map (·.2), by simp, by rw [er, List.length_map]; exact h2, fun j f p hf hp => ?_⟩⟩
  rw [List.getElem?_map, Option.map_eq_some_iff] at hf hp
  obtain ⟨x, hx, rfl⟩ := hf
  obtain ⟨y, hy, rfl⟩ := hp
  rw [hx] at hy
  cases hy
  exact hl x (List.mem_of_getElem? hx)
theorem op_at {h : AHeap} {v : Value} {l : List Op} (k : BR preO 6 h v l) {j : Nat} (hj : j < l.length) {kd : IntKind} :
    ∃ i off c e' sz' ti ro a cap, indexAddrP Tryd.prog 34 v (.int kd j) = some (.pointer (some ⟨i, off, none⟩)) ∧ h.obj i = some (.row c e' sz' ti ro) ∧ off + 6 ≤ c.length ∧ (c.drop off).take 6 = orow l[j] a cap ∧ Bytes h (.slice a l[j].2.length cap) l[j].2 := by
  obtain ⟨i, off, c, e', sz', ti, ro, a, cap, h1, h2, h3, h4, _, h6⟩ := k.at (P := Tryd.prog) (fun _ => rfl) Tryd.underlying34 tsz37 hj (kd := kd)
  exact ⟨i, off, c, e', sz', ti, ro, a, cap, h1, h2, h3, by rw [h4]; rfl, h6⟩

/-- What isn't too great. -/
structure OpB (o : Op) : Prop where
  dl : o.2.length ≤ 1500
  pl : o.1.path.length ≤ 300
  wl : o.1.who.length ≤ 100
  ol : o.1.owner.length ≤ 100
set_option maxHeartbeats 4000000 in
theorem great_calls {O : Old} {h : AHeap} {R : List Chunk} {v : Value} {ops : List Op} (k : Own O h R) (hx : ∀ h, Own O h R → BR preO 6 h v ops) (hn : ops.length ≤ 9223372036854775807) :
    ACalls Tryd.prog 15 #[v] h fun r h' => ∃ b, r = .bool b ∧ (b = false → ops.length ≤ 100 ∧ ∀ o ∈ ops, OpB o) ∧ Own O h' R := by
  obtain ⟨va, vc, rfl⟩ := (hx h k).val
  refine ACalls.of_awp (args := [.slice va ops.length vc]) (n := 37) Tryd.func15 rfl rfl (by show 1 ≤ 37; omega) ?_
  by_cases h1 : 100 < ops.length
  · have h1' : (100 : Int) < ops.length := by omega
    (repeat' first
      | refine AWP.seq ?_
      | refine AWP.block ?_
      | (refine AWP.skip ?_; try dsimp only [thn, inBlk])
      | (refine AWP.exit ?_; try simp only [thn, inBlk, if_true, reduceIte, Nat.reduceEqDiff])
      | (refine AWP.ret ?_; try dsimp only [thn, inBlk])
      | (refine AWP.condT ?_ ?_; (focus (simp [go_sem, h1']; done)))
      | (refine AWP.condF ?_ ?_; (focus (simp [go_sem, h1']; done)))
      | (apply AWP.rE; (focus (simp [go_sem, h1']; exact ⟨rfl, rfl⟩)); try dsimp only [thn, inBlk])
      | fail)
    simp [bodyQ, thn, inBlk, resA, resV, go_sem]
    exact k
  have h1' : ¬ (100 : Int) < ops.length := by omega
  (repeat' first
    | refine AWP.seq ?_
    | refine AWP.block ?_
    | (refine AWP.skip ?_; try dsimp only [thn, inBlk])
    | (refine AWP.exit ?_; try simp only [thn, inBlk, if_true, reduceIte, Nat.reduceEqDiff])
    | (refine AWP.ret ?_; try dsimp only [thn, inBlk])
    | (refine AWP.condT ?_ ?_; (focus (simp [go_sem, h1']; done)))
    | (refine AWP.condF ?_ ?_; (focus (simp [go_sem, h1']; done)))
    | (apply AWP.rE; (focus (simp [go_sem, h1']; exact ⟨rfl, rfl⟩)); try dsimp only [thn, inBlk])
    | fail)
  refine AWP.loopR [8, 9, 10] (fun m s h' => ∃ j : Nat, j ≤ ops.length ∧ m = ops.length - j ∧ s = ⟨37, [(8, .slice va ops.length vc), (9, .int .i64 ops.length), (10, .int .i64 j)]⟩ ∧ (∀ q : Nat, q < j → ∀ o, ops[q]? = some o → OpB o) ∧ Own O h' R) ?_ ?_
  · exact ⟨_, 0, by omega, rfl, rfl, fun q hq => by omega, k⟩
  rintro m s hB ⟨j, hj, rfl, rfl, hI, kB⟩
  by_cases hjm : j < ops.length
  rotate_left
  · have hjm' : ¬ (j : Int) < ops.length := by omega
    (repeat' first
      | refine AWP.seq ?_
      | refine AWP.block ?_
      | (refine AWP.skip ?_; try dsimp only [thn, inBlk])
      | (refine AWP.exit ?_; try simp only [thn, inBlk, if_true, reduceIte, Nat.reduceEqDiff])
      | (refine AWP.ret ?_; try dsimp only [thn, inBlk])
      | (refine AWP.condT ?_ ?_; (focus (simp [go_sem, hjm']; done)))
      | (refine AWP.condF ?_ ?_; (focus (simp [go_sem, hjm']; done)))
      | (apply AWP.rE; (focus (simp [go_sem, hjm']; exact ⟨rfl, rfl⟩)); try dsimp only [thn, inBlk])
      | fail)
    simp [bodyQ, thn, inBlk, resA, resV, go_sem]
    refine ⟨⟨by omega, fun o od ho => ?_⟩, kB⟩
    obtain ⟨q, hq⟩ := List.mem_iff_getElem?.1 ho
    exact hI q (by have := (List.getElem?_eq_some_iff.1 hq).1; omega) (o, od) hq
  have hjm' : (j : Int) < ops.length := by omega
  obtain ⟨i0, o0, c0, e0, z0, ti0, ro0, a0, n0, p0, q0, l0, f0, b0⟩ := op_at (hx hB kB) hjm (kd := .i64)
  have hoj : ops[j]? = some ops[j] := List.getElem?_eq_getElem hjm
  generalize ops[j] = o at f0 b0 hoj
  obtain ⟨⟨ok, om, ow, op, oo⟩, od⟩ := o
  dsimp only [orow] at f0
  have w1 : IntKind.i64.wrap ((j : Int) + 1) = ((j + 1 : Nat) : Int) := by rw [wI64 (by omega) (by omega)]; omega
  have k2 := (kB.push (.row [.int .i64 ok, .int .i64 om, tx ow, tx op, tx oo, .slice a0 od.length n0] 37 6 true false)).tail
  by_cases g1 : 1500 < od.length
  · have g1' : (1500 : Int) < od.length := by omega
    (repeat' first
      | refine AWP.seq ?_
      | refine AWP.block ?_
      | (refine AWP.skip ?_; try dsimp only [thn, inBlk])
      | (refine AWP.exit ?_; try simp only [thn, inBlk, if_true, reduceIte, Nat.reduceEqDiff])
      | (refine AWP.ret ?_; try dsimp only [thn, inBlk])
      | (refine AWP.condT ?_ ?_; (focus (simp [go_sem, hjm', p0, q0, l0, f0, g1']; done)))
      | (refine AWP.condF ?_ ?_; (focus (simp [go_sem, hjm', p0, q0, l0, f0, g1']; done)))
      | (apply AWP.rE; (focus (simp [go_sem, hjm', p0, q0, l0, f0, g1']; exact ⟨rfl, rfl⟩)); try dsimp only [thn, inBlk])
      | fail)
    simp [bodyQ, thn, inBlk, resA, resV, go_sem]
    exact k2
  have g1' : ¬ (1500 : Int) < od.length := by omega
  by_cases g2 : 300 < op.length
  · have g2' : (300 : Int) < op.length := by omega
    (repeat' first
      | refine AWP.seq ?_
      | refine AWP.block ?_
      | (refine AWP.skip ?_; try dsimp only [thn, inBlk])
      | (refine AWP.exit ?_; try simp only [thn, inBlk, if_true, reduceIte, Nat.reduceEqDiff])
      | (refine AWP.ret ?_; try dsimp only [thn, inBlk])
      | (refine AWP.condT ?_ ?_; (focus (simp [go_sem, hjm', p0, q0, l0, f0, g1', g2']; done)))
      | (refine AWP.condF ?_ ?_; (focus (simp [go_sem, hjm', p0, q0, l0, f0, g1', g2']; done)))
      | (apply AWP.rE; (focus (simp [go_sem, hjm', p0, q0, l0, f0, g1', g2']; exact ⟨rfl, rfl⟩)); try dsimp only [thn, inBlk])
      | fail)
    simp [bodyQ, thn, inBlk, resA, resV, go_sem]
    exact k2
  have g2' : ¬ (300 : Int) < op.length := by omega
  by_cases g3 : 100 < ow.length
  · have g3' : (100 : Int) < ow.length := by omega
    (repeat' first
      | refine AWP.seq ?_
      | refine AWP.block ?_
      | (refine AWP.skip ?_; try dsimp only [thn, inBlk])
      | (refine AWP.exit ?_; try simp only [thn, inBlk, if_true, reduceIte, Nat.reduceEqDiff])
      | (refine AWP.ret ?_; try dsimp only [thn, inBlk])
      | (refine AWP.condT ?_ ?_; (focus (simp [go_sem, hjm', p0, q0, l0, f0, g1', g2', g3']; done)))
      | (refine AWP.condF ?_ ?_; (focus (simp [go_sem, hjm', p0, q0, l0, f0, g1', g2', g3']; done)))
      | (apply AWP.rE; (focus (simp [go_sem, hjm', p0, q0, l0, f0, g1', g2', g3']; exact ⟨rfl, rfl⟩)); try dsimp only [thn, inBlk])
      | fail)
    simp [bodyQ, thn, inBlk, resA, resV, go_sem]
    exact k2
  have g3' : ¬ (100 : Int) < ow.length := by omega
  by_cases g4 : 100 < oo.length
  · have g4' : (100 : Int) < oo.length := by omega
    (repeat' first
      | refine AWP.seq ?_
      | refine AWP.block ?_
      | (refine AWP.skip ?_; try dsimp only [thn, inBlk])
      | (refine AWP.exit ?_; try simp only [thn, inBlk, if_true, reduceIte, Nat.reduceEqDiff])
      | (refine AWP.ret ?_; try dsimp only [thn, inBlk])
      | (refine AWP.condT ?_ ?_; (focus (simp [go_sem, hjm', p0, q0, l0, f0, g1', g2', g3', g4']; done)))
      | (refine AWP.condF ?_ ?_; (focus (simp [go_sem, hjm', p0, q0, l0, f0, g1', g2', g3', g4']; done)))
      | (apply AWP.rE; (focus (simp [go_sem, hjm', p0, q0, l0, f0, g1', g2', g3', g4']; exact ⟨rfl, rfl⟩)); try dsimp only [thn, inBlk])
      | fail)
    simp [bodyQ, thn, inBlk, resA, resV, go_sem]
    exact k2
  have g4' : ¬ (100 : Int) < oo.length := by omega
  (repeat' first
    | refine AWP.seq ?_
    | refine AWP.block ?_
    | (refine AWP.skip ?_; try dsimp only [thn, inBlk])
    | (refine AWP.exit ?_; try simp only [thn, inBlk, if_true, reduceIte, Nat.reduceEqDiff])
    | (refine AWP.ret ?_; try dsimp only [thn, inBlk])
    | (refine AWP.condT ?_ ?_; (focus (simp [go_sem, hjm', p0, q0, l0, f0, g1', g2', g3', g4', w1]; done)))
    | (refine AWP.condF ?_ ?_; (focus (simp [go_sem, hjm', p0, q0, l0, f0, g1', g2', g3', g4', w1]; done)))
    | (apply AWP.rE; (focus (simp [go_sem, hjm', p0, q0, l0, f0, g1', g2', g3', g4', w1]; exact ⟨rfl, rfl⟩)); try dsimp only [thn, inBlk])
    | fail)
  refine ⟨ops.length - (j + 1), by omega, j + 1, by omega, rfl, by simp [go_sem], fun q hq o ho => ?_, k2⟩
  by_cases e : q = j
  · subst e
    rw [hoj] at ho
    obtain rfl := Option.some.inj ho
    exact ⟨by dsimp only; omega, by dsimp only; omega, by dsimp only; omega, by dsimp only; omega⟩
  · exact hI q (by omega) o ho
end L19
