import Derived.Test.YtdbonhhdpaklhaaGreatDoorL23rex
import Derived.Test.YtdbonhhdpaklhaaGreatDoorAbLibF
section
open Go Ab Go.Proofs
namespace L23
set_option autoImplicit false
set_option linter.unusedSimpArgs false
set_option linter.unusedVariables false

/-! ### Steps that come in -/
structure Oh where
  dir : Bool
  who : List UInt8
  path : List UInt8
  mode : Int
def preO (o : Oh) : List Value := [.bool o.dir, tx o.who, tx o.path, .int .i64 o.mode]
abbrev Op := Oh × List UInt8
abbrev orow (o : Op) (a : Option Addr) (cap : Nat) : List Value := [.bool o.1.dir, tx o.1.who, tx o.1.path, .int .i64 o.1.mode, .slice a o.2.length cap]
theorem flat_B : ∀ bs : List UInt8, (bs.map fun c : UInt8 => [B c]).flatten = bs.map B
  | [] => rfl
  | c :: bs => by simp [flat_B bs]
set_option maxRecDepth 10000 in
theorem bytes_of {h : AHeap} {d : Dt} {v : Value} (q : Has Tryz.prog h d 32 [v]) : ∃ bs : List UInt8, Bytes h v bs := by
  obtain ⟨v', rs, e, h1, h2, h3⟩ := q.sl_inv Tryz.underlying32
  cases e
  have c5 : Tryz.prog.cellsOf 5 = 1 := by kernel_rfl
  rw [c5] at h2
  obtain ⟨bs, rfl, _⟩ := map_of (f := fun c : UInt8 => [B c]) (p := fun _ => True) (rs := rs) fun r hr => by
    obtain ⟨_, d, hd⟩ := h3 r hr
    obtain ⟨n, e, w⟩ := hd.int_inv Tryz.underlying5
    refine ⟨UInt8.ofNat n.toNat, ?_, trivial⟩
    simp [Lit.wf, IntKind.min, IntKind.max, IntKind.signed, IntKind.bits] at w
    rw [e, B]
    congr 2
    simp [UInt8.toNat_ofNat]; omega
  refine ⟨bs, ?_⟩
  rw [flat_B, List.length_map] at h2
  rcases h2 with ⟨rfl, h, e⟩ | ⟨i, off, cap, c, e, sz, ti, ro, rfl, q1, q2, q3, q4, q5, q6⟩
  · exact .inl ⟨rfl, List.length_eq_zero_iff.1 h⟩
  · exact .inr ⟨i, off, cap, c, e, sz, ti, ro, rfl, q1, q2, q3, q4, by omega, by simpa using q6⟩
theorem op_of {h : AHeap} {d : Dt} {cs : List Value} (q : Has Tryz.prog h d 60 cs) : ∃ (o : Op) (a : Option Addr) (cap : Nat), cs = orow o a cap ∧ Bytes h (.slice a o.2.length cap) o.2 := by
  have c60 : Tryz.prog.cellsOf 60 = 5 := by kernel_rfl
  have c3 : Tryz.prog.cellsOf 3 = 1 := by kernel_rfl
  have c4 : Tryz.prog.cellsOf 4 = 1 := by kernel_rfl
  have c9 : Tryz.prog.cellsOf 9 = 1 := by kernel_rfl
  have c32 : Tryz.prog.cellsOf 32 = 1 := by kernel_rfl
  obtain ⟨hl, hf⟩ := q.struct_at Tryz.underlying60
  rw [c60] at hl
  obtain ⟨d0, q0⟩ := hf 0 4 0 1 rfl c4
  obtain ⟨d1, q1⟩ := hf 1 9 1 1 rfl c9
  obtain ⟨d2, q2⟩ := hf 2 9 2 1 rfl c9
  obtain ⟨d3, q3⟩ := hf 3 3 3 1 rfl c3
  obtain ⟨d4, q4⟩ := hf 4 32 4 1 rfl c32
  obtain ⟨n0, e0⟩ := q0.bool_inv Tryz.underlying4
  obtain ⟨s1, e1, _⟩ := q1.str_inv Tryz.underlying9
  obtain ⟨s2, e2, _⟩ := q2.str_inv Tryz.underlying9
  obtain ⟨n3, e3, _⟩ := q3.int_inv Tryz.underlying3
  match cs, hl with
  | [x0, x1, x2, x3, x4], _ =>
    simp at e0 e1 e2 e3 q4
    obtain ⟨bs, hb⟩ := bytes_of q4
    obtain ⟨a, cap, rfl⟩ := hb.val
    exact ⟨(⟨n0, s1, s2, n3⟩, bs), a, cap, by rw [e0, e1, e2, e3], hb⟩
theorem ops_of {h : AHeap} {d : Dt} {v : Value} (q : Has Tryz.prog h d 22 [v]) : ∃ l : List Op, l.length ≤ 9223372036854775807 ∧ BR preO 5 h v l := by
  have c60 : Tryz.prog.cellsOf 60 = 5 := by kernel_rfl
  obtain ⟨v', rs, e, h1, h2, h3⟩ := q.sl_inv Tryz.underlying22
  cases e
  obtain ⟨l, rfl, hl⟩ := map_of (f := fun q : Op × (Option Addr × Nat) => orow q.1 q.2.1 q.2.2) (p := fun q => Bytes h (.slice q.2.1 q.1.2.length q.2.2) q.1.2) (rs := rs) fun r hr => by
    obtain ⟨_, d, hd⟩ := h3 r hr
    obtain ⟨o, a, cap, e, b⟩ := op_of hd
    exact ⟨(o, (a, cap)), e, b⟩
  rw [c60] at h2
  rw [List.length_map] at h1 h2
  have er : rcells preO (l.map (·.1)) (l.map (·.2)) = l.map fun q : Op × (Option Addr × Nat) => orow q.1 q.2.1 q.2.2 := by
    simp only [rcells, List.zipWith_map]
    apply List.ext_getElem?
    intro m
    rw [List.getElem?_zipWith, List.getElem?_map]
    cases l[m]? <;> rfl
  refine ⟨l.map (·.1), by simpa using h1, ⟨l.map (·.2), by simp, by rw [er, List.length_map]; exact h2, fun j f p hf hp => ?_⟩⟩
  rw [List.getElem?_map, Option.map_eq_some_iff] at hf hp
  obtain ⟨x, hx, rfl⟩ := hf
  obtain ⟨y, hy, rfl⟩ := hp
  rw [hx] at hy
  cases hy
  exact hl x (List.mem_of_getElem? hx)
/-- What isn't too great. -/
structure OpB (o : Op) : Prop where
  dl : o.2.length ≤ 1200
  pl : o.1.path.length ≤ 200
  wl : o.1.who.length ≤ 100
/-- Steps that came in, their addresses known. -/
structure OpsA (h : AHeap) (v : Value) (l : List Op) (ac : List (Option Addr × Nat)) : Prop where
  len : ac.length = l.length
  sl : Sl 5 h v l.length (rcells preO l ac).flatten
  bd : ∀ (j : Nat) (f : Op) (p : Option Addr × Nat), l[j]? = some f → ac[j]? = some p → Bytes h (.slice p.1 f.2.length p.2) f.2
theorem OpsA.of_br {h : AHeap} {v : Value} {l : List Op} (b : BR preO 5 h v l) : ∃ ac, OpsA h v l ac := by
  obtain ⟨ac, la, sl, bd⟩ := b
  exact ⟨ac, la, sl, bd⟩
theorem OpsA.of_old {h hh : AHeap} {L : List Chunk} {v : Value} {l : List Op} {ac : List (Option Addr × Nat)} (k : OpsA h v l ac) (hb : h.base = h.next) (o : Own h.asOld hh L) : OpsA hh v l ac :=
  ⟨k.len, k.sl.of_old hb o, fun j f p hf hp => (k.bd j f p hf hp).of_old hb o⟩
theorem OpsA.val {h : AHeap} {v : Value} {l : List Op} {ac : List (Option Addr × Nat)} (k : OpsA h v l ac) : ∃ a cap, v = .slice a l.length cap := by
  obtain ⟨a, cap, e⟩ := k.sl.val
  exact ⟨a, cap, e⟩
theorem ops_row {h : AHeap} {v : Value} {l : List Op} {ac : List (Option Addr × Nat)} (k : OpsA h v l ac) {j : Nat} {f : Op} {p : Option Addr × Nat} (hf : l[j]? = some f) (hp : ac[j]? = some p) {kd : IntKind} :
    ∃ i off c e' sz' ti ro, indexAddrP Tryz.prog 22 v (.int kd j) = some (.pointer (some ⟨i, off, none⟩)) ∧ h.obj i = some (.row c e' sz' ti ro) ∧ off + 5 ≤ c.length ∧ (c.drop off).take 5 = orow f p.1 p.2 := by
  obtain ⟨hj, _⟩ := List.getElem?_eq_some_iff.1 hf
  obtain ⟨i, off, c, e', sz', ti, ro, q1, q2, q3, q4, q5⟩ := k.sl.record (P := Tryz.prog) (t := 22) Tryz.underlying22 tsz60 (rcells_all (pre := preO) (sz := 5) (fun _ => rfl) ac) (rcells_length k.len) hj (kd := kd)
  have hr : (rcells preO l ac)[j]? = some (orow f p.1 p.2) := by simp [rcells, List.getElem?_zipWith, hf, hp, rec1, preO]
  rw [List.getElem?_eq_getElem (by rw [rcells_length k.len]; exact hj)] at hr
  exact ⟨i, off, c, e', sz', ti, ro, q1, q2, q3, by rw [q4]; exact Option.some.inj hr⟩
set_option maxHeartbeats 4000000 in
theorem great_calls {O : Old} {h : AHeap} {R : List Chunk} {v : Value} {ops : List Op} {ac : List (Option Addr × Nat)} (k : Own O h R) (hx : ∀ h, Own O h R → OpsA h v ops ac) (hn : ops.length ≤ 9223372036854775807) :
    ACalls Tryz.prog 9 #[v] h fun r h' => ∃ b, r = .bool b ∧ (b = false → ops.length ≤ 40 ∧ ∀ o ∈ ops, OpB o) ∧ Own O h' R := by
  obtain ⟨va, vc, rfl⟩ := (hx h k).val
  have hlen := (hx h k).len
  refine ACalls.of_awp (args := [.slice va ops.length vc]) (n := 31) Tryz.func9 rfl rfl (by show 1 ≤ 31; omega) ?_
  by_cases h1 : 40 < ops.length
  · have h1' : (40 : Int) < ops.length := by omega
    (repeat' first
      | refine AWP.seq ?_
      | refine AWP.block ?_
      | (refine AWP.skip ?_; try dsimp only [thn, inBlk])
      | (refine AWP.exit ?_; try simp only [thn, inBlk, if_true, reduceIte, Nat.reduceEqDiff])
      | (refine AWP.ret ?_; try dsimp only [thn, inBlk])
      | (refine AWP.condT ?_ ?_; (focus (simp [go_sem, h1']; done)))
      | (refine AWP.condF ?_ ?_; (focus (simp [go_sem, h1']; done)))
      | (apply AWP.rE; (focus (simp [go_sem, h1']; exact ⟨rfl, rfl⟩)); try dsimp only [thn, inBlk])
      | fail)
    simp [bodyQ, thn, inBlk, resA, resV, go_sem]
    exact k
  have h1' : ¬ (40 : Int) < ops.length := by omega
  (repeat' first
    | refine AWP.seq ?_
    | refine AWP.block ?_
    | (refine AWP.skip ?_; try dsimp only [thn, inBlk])
    | (refine AWP.exit ?_; try simp only [thn, inBlk, if_true, reduceIte, Nat.reduceEqDiff])
    | (refine AWP.ret ?_; try dsimp only [thn, inBlk])
    | (refine AWP.condT ?_ ?_; (focus (simp [go_sem, h1']; done)))
    | (refine AWP.condF ?_ ?_; (focus (simp [go_sem, h1']; done)))
    | (apply AWP.rE; (focus (simp [go_sem, h1']; exact ⟨rfl, rfl⟩)); try dsimp only [thn, inBlk])
    | fail)
  refine AWP.loopR [8, 9, 10] (fun m s h' => ∃ j : Nat, j ≤ ops.length ∧ m = ops.length - j ∧ s = ⟨31, [(8, .slice va ops.length vc), (9, .int .i64 ops.length), (10, .int .i64 j)]⟩ ∧ (∀ q : Nat, q < j → ∀ o, ops[q]? = some o → OpB o) ∧ Own O h' R) ?_ ?_
  · exact ⟨_, 0, by omega, rfl, rfl, fun q hq => by omega, k⟩
  rintro m s hB ⟨j, hj, rfl, rfl, hI, kB⟩
  by_cases hjm : j < ops.length
  rotate_left
  · have hjm' : ¬ (j : Int) < ops.length := by omega
    (repeat' first
      | refine AWP.seq ?_
      | refine AWP.block ?_
      | (refine AWP.skip ?_; try dsimp only [thn, inBlk])
      | (refine AWP.exit ?_; try simp only [thn, inBlk, if_true, reduceIte, Nat.reduceEqDiff])
      | (refine AWP.ret ?_; try dsimp only [thn, inBlk])
      | (refine AWP.condT ?_ ?_; (focus (simp [go_sem, hjm']; done)))
      | (refine AWP.condF ?_ ?_; (focus (simp [go_sem, hjm']; done)))
      | (apply AWP.rE; (focus (simp [go_sem, hjm']; exact ⟨rfl, rfl⟩)); try dsimp only [thn, inBlk])
      | fail)
    simp [bodyQ, thn, inBlk, resA, resV, go_sem]
    refine ⟨⟨by omega, fun o od ho => ?_⟩, kB⟩
    obtain ⟨q, hq⟩ := List.mem_iff_getElem?.1 ho
    exact hI q (by have := (List.getElem?_eq_some_iff.1 hq).1; omega) (o, od) hq
  have hjm' : (j : Int) < ops.length := by omega
  have hoj : ops[j]? = some ops[j] := List.getElem?_eq_getElem hjm
  have haj : ac[j]? = some (ac[j]'(by omega)) := List.getElem?_eq_getElem (by omega)
  obtain ⟨i0, o0, c0, e0, z0, ti0, ro0, p0, q0, l0, f0⟩ := ops_row (hx hB kB) hoj haj (kd := .i64)
  generalize ops[j] = o at f0 hoj
  generalize (ac[j]'(by omega)) = p at f0
  obtain ⟨⟨od0, ow, op, om⟩, od⟩ := o
  obtain ⟨a0, n0⟩ := p
  dsimp only [orow] at f0
  have w1 : IntKind.i64.wrap ((j : Int) + 1) = ((j + 1 : Nat) : Int) := by rw [wI64 (by omega) (by omega)]; omega
  have k2 := (kB.push (.row [.bool od0, tx ow, tx op, .int .i64 om, .slice a0 od.length n0] 60 5 true false)).tail
  by_cases g1 : 1200 < od.length
  · have g1' : (1200 : Int) < od.length := by omega
    (repeat' first
      | refine AWP.seq ?_
      | refine AWP.block ?_
      | (refine AWP.skip ?_; try dsimp only [thn, inBlk])
      | (refine AWP.exit ?_; try simp only [thn, inBlk, if_true, reduceIte, Nat.reduceEqDiff])
      | (refine AWP.ret ?_; try dsimp only [thn, inBlk])
      | (refine AWP.condT ?_ ?_; (focus (simp [go_sem, hjm', p0, q0, l0, f0, g1']; done)))
      | (refine AWP.condF ?_ ?_; (focus (simp [go_sem, hjm', p0, q0, l0, f0, g1']; done)))
      | (apply AWP.rE; (focus (simp [go_sem, hjm', p0, q0, l0, f0, g1']; exact ⟨rfl, rfl⟩)); try dsimp only [thn, inBlk])
      | fail)
    simp [bodyQ, thn, inBlk, resA, resV, go_sem]
    exact k2
  have g1' : ¬ (1200 : Int) < od.length := by omega
  by_cases g2 : 200 < op.length
  · have g2' : (200 : Int) < op.length := by omega
    (repeat' first
      | refine AWP.seq ?_
      | refine AWP.block ?_
      | (refine AWP.skip ?_; try dsimp only [thn, inBlk])
      | (refine AWP.exit ?_; try simp only [thn, inBlk, if_true, reduceIte, Nat.reduceEqDiff])
      | (refine AWP.ret ?_; try dsimp only [thn, inBlk])
      | (refine AWP.condT ?_ ?_; (focus (simp [go_sem, hjm', p0, q0, l0, f0, g1', g2']; done)))
      | (refine AWP.condF ?_ ?_; (focus (simp [go_sem, hjm', p0, q0, l0, f0, g1', g2']; done)))
      | (apply AWP.rE; (focus (simp [go_sem, hjm', p0, q0, l0, f0, g1', g2']; exact ⟨rfl, rfl⟩)); try dsimp only [thn, inBlk])
      | fail)
    simp [bodyQ, thn, inBlk, resA, resV, go_sem]
    exact k2
  have g2' : ¬ (200 : Int) < op.length := by omega
  by_cases g3 : 100 < ow.length
  · have g3' : (100 : Int) < ow.length := by omega
    (repeat' first
      | refine AWP.seq ?_
      | refine AWP.block ?_
      | (refine AWP.skip ?_; try dsimp only [thn, inBlk])
      | (refine AWP.exit ?_; try simp only [thn, inBlk, if_true, reduceIte, Nat.reduceEqDiff])
      | (refine AWP.ret ?_; try dsimp only [thn, inBlk])
      | (refine AWP.condT ?_ ?_; (focus (simp [go_sem, hjm', p0, q0, l0, f0, g1', g2', g3']; done)))
      | (refine AWP.condF ?_ ?_; (focus (simp [go_sem, hjm', p0, q0, l0, f0, g1', g2', g3']; done)))
      | (apply AWP.rE; (focus (simp [go_sem, hjm', p0, q0, l0, f0, g1', g2', g3']; exact ⟨rfl, rfl⟩)); try dsimp only [thn, inBlk])
      | fail)
    simp [bodyQ, thn, inBlk, resA, resV, go_sem]
    exact k2
  have g3' : ¬ (100 : Int) < ow.length := by omega
  (repeat' first
    | refine AWP.seq ?_
    | refine AWP.block ?_
    | (refine AWP.skip ?_; try dsimp only [thn, inBlk])
    | (refine AWP.exit ?_; try simp only [thn, inBlk, if_true, reduceIte, Nat.reduceEqDiff])
    | (refine AWP.ret ?_; try dsimp only [thn, inBlk])
    | (refine AWP.condT ?_ ?_; (focus (simp [go_sem, hjm', p0, q0, l0, f0, g1', g2', g3', w1]; done)))
    | (refine AWP.condF ?_ ?_; (focus (simp [go_sem, hjm', p0, q0, l0, f0, g1', g2', g3', w1]; done)))
    | (apply AWP.rE; (focus (simp [go_sem, hjm', p0, q0, l0, f0, g1', g2', g3', w1]; exact ⟨rfl, rfl⟩)); try dsimp only [thn, inBlk])
    | fail)
  refine ⟨ops.length - (j + 1), by omega, j + 1, by omega, rfl, by simp [go_sem], fun q hq o ho => ?_, k2⟩
  by_cases e : q = j
  · subst e
    rw [hoj] at ho
    obtain rfl := Option.some.inj ho
    exact ⟨by dsimp only; omega, by dsimp only; omega, by dsimp only; omega⟩
  · exact hI q (by omega) o ho
end L23
end

section
open Go Ab Go.Proofs
namespace L23
set_option autoImplicit false
set_option linter.unusedSimpArgs false
set_option linter.unusedVariables false
/-! ### A tree laid by steps -/
theorem RT.top : RT [L23.top] [L23.top] := ⟨by simp, fun x => Iff.rfl⟩
def stepT (T : TL) (o : Op) : TL := if o.1.dir = true then (mkR T o.1.who o.1.path o.1.mode).2 else (wrR T o.1.who o.1.path o.2 o.1.mode).2
def laidT (l : List Op) : TL := l.foldl stepT [top]
theorem laidT_succ {l : List Op} {j : Nat} {o : Op} (h : l[j]? = some o) : laidT (l.take (j + 1)) = stepT (laidT (l.take j)) o := by
  unfold laidT
  rw [List.take_add_one, h]; simp
theorem TS.step {T : TL} (h : TS T) {o : Op} (b : OpB o) : TS (stepT T o) := by
  have h1 := b.pl
  have h2 := b.wl
  unfold stepT
  split
  · exact h.mkd (by omega) (by omega)
  · exact h.wr (by omega) (by omega)
theorem TS.laid : ∀ {l : List Op}, (∀ o ∈ l, OpB o) → ∀ {T : TL}, TS T → TS (l.foldl stepT T)
  | [], _, _, h => h
  | o :: l, hb, T, h => TS.laid (l := l) (fun x hx => hb x (by simp [hx])) (h.step (hb o (by simp)))
section
variable {O : Old} {h : AHeap} {R : List Chunk}
set_option maxRecDepth 100000 in
set_option maxHeartbeats 16000000 in
theorem laid_calls {v : Value} {ops : List Op} {ac : List (Option Addr × Nat)} (k : Own O h R) (hx : ∀ h, Own O h R → OpsA h v ops ac) (hn : ops.length ≤ 40) (hB : ∀ o ∈ ops, OpB o) :
    ACalls Tryz.prog 10 #[v] h fun r h' => ∃ i ib xs, r = .tuple #[ptr i, ptr ib] ∧ RT (laidT ops) xs ∧ Own O h' (tr i (laidT ops) :: rts ib xs :: R) := by
  obtain ⟨va, vc, rfl⟩ := (hx h k).val
  have hlen := (hx h k).len
  refine ACalls.of_awp (args := [.slice va ops.length vc]) (n := 60) Tryz.func10 rfl rfl (by show 1 ≤ 60; omega) ?_
  (repeat' first
    | refine AWP.seq ?_
    | refine AWP.block ?_
    | (refine AWP.skip ?_; try dsimp only [thn, inBlk])
    | (refine AWP.exit ?_; try simp only [thn, inBlk, if_true, reduceIte, Nat.reduceEqDiff])
    | (refine AWP.ret ?_; try dsimp only [thn, inBlk])
    | (refine AWP.condT ?_ ?_; (focus (simp [go_sem]; done)))
    | (refine AWP.condF ?_ ?_; (focus (simp [go_sem]; done)))
    | (apply AWP.rE; (focus (simp [go_sem]; exact ⟨rfl, rfl⟩)); try dsimp only [thn, inBlk])
    | fail)
  refine AWP.callE (by simp [go_sem]; exact ⟨rfl, rfl, rfl, rfl, rfl⟩) (by kernel_rfl) ?_
  refine (new_calls k).mono ?_
  rintro r h1 ⟨i, rfl, k1⟩
  refine awpL_toCall (by simp [go_sem]; exact ⟨rfl, rfl, rfl, rfl, rfl⟩) (by kernel_rfl) ?_
  refine (rnew_calls k1).mono ?_
  rintro r h2 ⟨ib, rfl, k2⟩
  refine awpL_restE (by simp [go_sem]; exact ⟨rfl, rfl⟩) ?_; try dsimp only [thn, inBlk]
  (repeat' first
    | refine AWP.seq ?_
    | refine AWP.block ?_
    | (refine AWP.skip ?_; try dsimp only [thn, inBlk])
    | (refine AWP.exit ?_; try simp only [thn, inBlk, if_true, reduceIte, Nat.reduceEqDiff])
    | (refine AWP.ret ?_; try dsimp only [thn, inBlk])
    | (refine AWP.condT ?_ ?_; (focus (simp [go_sem]; done)))
    | (refine AWP.condF ?_ ?_; (focus (simp [go_sem]; done)))
    | (apply AWP.rE; (focus (simp [go_sem]; exact ⟨rfl, rfl⟩)); try dsimp only [thn, inBlk])
    | fail)
  refine AWP.loopR [4, 5, 13, 14, 15] (fun m s h' => ∃ (j : Nat) (xs : TL), j ≤ ops.length ∧ m = ops.length - j ∧ s = ⟨60, [(4, ptr i), (5, ptr ib), (13, .slice va ops.length vc), (14, .int .i64 ops.length), (15, .int .i64 j)]⟩ ∧ TS (laidT (ops.take j)) ∧ RT (laidT (ops.take j)) xs ∧ Own O h' (tr i (laidT (ops.take j)) :: rts ib xs :: R)) ?_ ?_
  · exact ⟨_, 0, _, by omega, rfl, rfl, TS.top, RT.top, k2.b1⟩
  rintro m s hA ⟨j, xs, hj, rfl, rfl, hT, hr, kA⟩
  by_cases hjm : j < ops.length
  rotate_left
  · have hjm' : ¬ (j : Int) < ops.length := by omega
    have e : ops.take j = ops := List.take_of_length_le (by omega)
    rw [e] at hr kA
    (repeat' first
      | refine AWP.seq ?_
      | refine AWP.block ?_
      | (refine AWP.skip ?_; try dsimp only [thn, inBlk])
      | (refine AWP.exit ?_; try simp only [thn, inBlk, if_true, reduceIte, Nat.reduceEqDiff])
      | (refine AWP.ret ?_; try dsimp only [thn, inBlk])
      | (refine AWP.condT ?_ ?_; (focus (simp [go_sem, hjm']; done)))
      | (refine AWP.condF ?_ ?_; (focus (simp [go_sem, hjm']; done)))
      | (apply AWP.rE; (focus (simp [go_sem, hjm']; exact ⟨rfl, rfl⟩)); try dsimp only [thn, inBlk])
      | fail)
    simp [bodyQ, thn, inBlk, resA, resV, go_sem]
    exact ⟨i, ib, ⟨rfl, rfl⟩, xs, hr, kA⟩
  have hjm' : (j : Int) < ops.length := by omega
  have hoj : ops[j]? = some ops[j] := List.getElem?_eq_getElem hjm
  have hob := hB _ (List.getElem_mem hjm)
  have haj : ac[j]? = some (ac[j]'(by omega)) := List.getElem?_eq_getElem (by omega)
  obtain ⟨i0, o0, c0, e0, z0, ti0, ro0, p0, q0, l0, f0⟩ := ops_row (hx hA kA.tail.tail) hoj haj (kd := .i64)
  generalize ops[j] = o at f0 hoj hob
  generalize (ac[j]'(by omega)) = p at f0 haj
  have hbd : ∀ hh, Own O hh R → Bytes hh (.slice p.1 o.2.length p.2) o.2 := fun hh kk => (hx hh kk).bd j _ _ hoj haj
  have hb1 := hob.dl
  have hb2 := hob.pl
  have hb3 := hob.wl
  have hT2 := hT.step hob
  rw [← laidT_succ hoj] at hT2
  have eT := laidT_succ hoj
  obtain ⟨⟨od0, ow, op, om⟩, od⟩ := o
  obtain ⟨a0, n0⟩ := p
  dsimp only [orow] at f0 hbd hb1 hb2 hb3
  have w1 : IntKind.i64.wrap ((j : Int) + 1) = ((j + 1 : Nat) : Int) := by rw [wI64 (by omega) (by omega)]; omega
  have k3 := kA.push (.row [.bool od0, tx ow, tx op, .int .i64 om, .slice a0 od.length n0] 60 5 true false)
  have c3 := k3.obj
  have hX := hr.rx hT
  have htp := hr.tp hT
  cases od0
  · obtain ⟨e1, e2⟩ := hr.write hT ow op od om
    have eT2 : laidT (ops.take (j + 1)) = (wrR (laidT (ops.take j)) ow op od om).2 := eT
    rw [← eT2] at e2
    (repeat' first
      | refine AWP.seq ?_
      | refine AWP.block ?_
      | (refine AWP.skip ?_; try dsimp only [thn, inBlk])
      | (refine AWP.exit ?_; try simp only [thn, inBlk, if_true, reduceIte, Nat.reduceEqDiff])
      | (refine AWP.ret ?_; try dsimp only [thn, inBlk])
      | (refine AWP.condT ?_ ?_; (focus (simp [go_sem, hjm', p0, q0, l0, f0]; done)))
      | (refine AWP.condF ?_ ?_; (focus (simp [go_sem, hjm', p0, q0, l0, f0]; done)))
      | (apply AWP.rE; (focus (simp [go_sem, hjm', p0, q0, l0, f0]; exact ⟨rfl, rfl⟩)); try dsimp only [thn, inBlk])
      | fail)
    refine AWP.callE (by simp [go_sem, c3]; exact ⟨rfl, rfl, rfl, rfl, rfl⟩) (by kernel_rfl) ?_
    refine (write_calls (who := ow) (p := op) (d := od) (z := om) hT.toTK k3.b1 (fun hh kk => hbd hh kk.tail.tail) (by omega) (by omega)).mono ?_
    rintro r h4 ⟨rfl, k4⟩
    rw [← eT2] at k4
    have c4 := k4.b1.obj
    refine awpL_restE (by simp [go_sem]; exact ⟨rfl, rfl⟩) ?_; try dsimp only [thn, inBlk]
    (repeat' first
      | refine AWP.seq ?_
      | refine AWP.block ?_
      | (refine AWP.skip ?_; try dsimp only [thn, inBlk])
      | (refine AWP.exit ?_; try simp only [thn, inBlk, if_true, reduceIte, Nat.reduceEqDiff])
      | (refine AWP.ret ?_; try dsimp only [thn, inBlk])
      | (refine AWP.condT ?_ ?_; (focus (simp [go_sem]; done)))
      | (refine AWP.condF ?_ ?_; (focus (simp [go_sem]; done)))
      | (apply AWP.rE; (focus (simp [go_sem]; exact ⟨rfl, rfl⟩)); try dsimp only [thn, inBlk])
      | fail)
    refine AWP.callE (by simp [go_sem, c4]; exact ⟨rfl, rfl, rfl, rfl, rfl⟩) (by kernel_rfl) ?_
    refine (rwrite_calls (who := ow) (p := op) (d := od) (z := om) hX htp k4.b2 (fun hh kk => hbd hh kk.tail.tail) (by omega) (by omega)).mono ?_
    rintro r h5 ⟨rfl, k5⟩
    refine awpL_restE (by simp [go_sem]; exact ⟨rfl, rfl⟩) ?_; try dsimp only [thn, inBlk]
    (repeat' first
      | refine AWP.seq ?_
      | refine AWP.block ?_
      | (refine AWP.skip ?_; try dsimp only [thn, inBlk])
      | (refine AWP.exit ?_; try simp only [thn, inBlk, if_true, reduceIte, Nat.reduceEqDiff])
      | (refine AWP.ret ?_; try dsimp only [thn, inBlk])
      | (refine AWP.condT ?_ ?_; (focus (simp [go_sem, w1]; done)))
      | (refine AWP.condF ?_ ?_; (focus (simp [go_sem, w1]; done)))
      | (apply AWP.rE; (focus (simp [go_sem, w1]; exact ⟨rfl, rfl⟩)); try dsimp only [thn, inBlk])
      | fail)
    exact ⟨ops.length - (j + 1), by omega, j + 1, _, by omega, rfl, by simp [go_sem], hT2, e2, k5.d2.b1⟩
  · obtain ⟨e1, e2⟩ := hr.mkdir hT ow op om
    have eT2 : laidT (ops.take (j + 1)) = (mkR (laidT (ops.take j)) ow op om).2 := eT
    rw [← eT2] at e2
    (repeat' first
      | refine AWP.seq ?_
      | refine AWP.block ?_
      | (refine AWP.skip ?_; try dsimp only [thn, inBlk])
      | (refine AWP.exit ?_; try simp only [thn, inBlk, if_true, reduceIte, Nat.reduceEqDiff])
      | (refine AWP.ret ?_; try dsimp only [thn, inBlk])
      | (refine AWP.condT ?_ ?_; (focus (simp [go_sem, hjm', p0, q0, l0, f0]; done)))
      | (refine AWP.condF ?_ ?_; (focus (simp [go_sem, hjm', p0, q0, l0, f0]; done)))
      | (apply AWP.rE; (focus (simp [go_sem, hjm', p0, q0, l0, f0]; exact ⟨rfl, rfl⟩)); try dsimp only [thn, inBlk])
      | fail)
    refine AWP.callE (by simp [go_sem, c3]; exact ⟨rfl, rfl, rfl, rfl, rfl⟩) (by kernel_rfl) ?_
    refine (mkdir_calls (who := ow) (p := op) (z := om) hT.toTK k3.b1 (by omega)).mono ?_
    rintro r h4 ⟨rfl, k4⟩
    rw [← eT2] at k4
    have c4 := k4.b1.obj
    refine awpL_restE (by simp [go_sem]; exact ⟨rfl, rfl⟩) ?_; try dsimp only [thn, inBlk]
    (repeat' first
      | refine AWP.seq ?_
      | refine AWP.block ?_
      | (refine AWP.skip ?_; try dsimp only [thn, inBlk])
      | (refine AWP.exit ?_; try simp only [thn, inBlk, if_true, reduceIte, Nat.reduceEqDiff])
      | (refine AWP.ret ?_; try dsimp only [thn, inBlk])
      | (refine AWP.condT ?_ ?_; (focus (simp [go_sem]; done)))
      | (refine AWP.condF ?_ ?_; (focus (simp [go_sem]; done)))
      | (apply AWP.rE; (focus (simp [go_sem]; exact ⟨rfl, rfl⟩)); try dsimp only [thn, inBlk])
      | fail)
    refine AWP.callE (by simp [go_sem, c4]; exact ⟨rfl, rfl, rfl, rfl, rfl⟩) (by kernel_rfl) ?_
    refine (rmkdir_calls (who := ow) (p := op) (z := om) hX htp k4.b2 (by omega)).mono ?_
    rintro r h5 ⟨rfl, k5⟩
    refine awpL_restE (by simp [go_sem]; exact ⟨rfl, rfl⟩) ?_; try dsimp only [thn, inBlk]
    (repeat' first
      | refine AWP.seq ?_
      | refine AWP.block ?_
      | (refine AWP.skip ?_; try dsimp only [thn, inBlk])
      | (refine AWP.exit ?_; try simp only [thn, inBlk, if_true, reduceIte, Nat.reduceEqDiff])
      | (refine AWP.ret ?_; try dsimp only [thn, inBlk])
      | (refine AWP.condT ?_ ?_; (focus (simp [go_sem, w1]; done)))
      | (refine AWP.condF ?_ ?_; (focus (simp [go_sem, w1]; done)))
      | (apply AWP.rE; (focus (simp [go_sem, w1]; exact ⟨rfl, rfl⟩)); try dsimp only [thn, inBlk])
      | fail)
    exact ⟨ops.length - (j + 1), by omega, j + 1, _, by omega, rfl, by simp [go_sem], hT2, e2, k5.d2.b1⟩
end
end L23
end

section
open Go Ab Go.Proofs
namespace L23
set_option autoImplicit false
set_option linter.unusedSimpArgs false
set_option linter.unusedVariables false
section
variable {O : Old} {h : AHeap} {R : List Chunk} {i : Nat} {T xs : TL} {who : List UInt8}
/-! ### The document's Source, and speaks -/
set_option maxHeartbeats 16000000 in
theorem rsource_calls {v : Value} {zs : List NZ} {p : List UInt8} {all : Bool} (hT : TS T) (hr : RT T xs) (hz : zs.map (·.1) = xs) (hw : who.length ≤ 1000000) (hB : ∀ z ∈ zs, ∀ hh, Own O hh R → Bytes hh (.slice z.2.1 z.1.2.data.length z.2.2) z.1.2.data)
    (k : Own O h (cell i (rrow v) :: nzs v zs :: R)) (hp : p.length ≤ 90000) :
    ACalls Tryz.prog 12 #[ptr i, tx who, tx p, .bool all] h (RStrP O R i v zs (srcR xs who p all)) := by
  refine ACalls.of_awp (args := [ptr i, tx who, tx p, .bool all]) (n := 36) Tryz.func12 rfl rfl (by show 4 ≤ 36; omega) ?_
  (repeat' first
    | refine AWP.seq ?_
    | refine AWP.block ?_
    | (refine AWP.skip ?_; try dsimp only [thn, inBlk])
    | (refine AWP.exit ?_; try simp only [thn, inBlk, if_true, reduceIte, Nat.reduceEqDiff])
    | (refine AWP.ret ?_; try dsimp only [thn, inBlk])
    | (refine AWP.condT ?_ ?_; (focus (simp [go_sem]; done)))
    | (refine AWP.condF ?_ ?_; (focus (simp [go_sem]; done)))
    | (apply AWP.rE; (focus (simp [go_sem]; exact ⟨rfl, rfl⟩)); try dsimp only [thn, inBlk])
    | fail)
  refine AWP.callE (by simp [go_sem]; exact ⟨rfl, rfl, rfl, rfl, rfl⟩) (by kernel_rfl) ?_
  refine (rstat_calls (who := who) (p := p) (hr.rx hT) hz k (by omega)).mono ?_
  rintro r hh1 ⟨z, rfl, hzz, k1⟩
  have k2 := k1.push (.row [tx z.1.1, .bool z.1.2.dir, tx z.1.2.own, .int .i64 z.1.2.mode, .slice z.2.1 z.1.2.data.length z.2.2] 47 5 true false)
  have c2 := k2.obj
  by_cases hc : findE xs who p = 0
  rotate_left
  · have hc' : (findE xs who p != 0) = true := by simpa using hc
    have e : srcR xs who p all = (findE xs who p, []) := by unfold srcR; rw [if_neg hc]
    rw [e]
    have b : RStrP O R i v zs (findE xs who p, []) (.tuple #[tx [], .int .i64 (findE xs who p)]) (hh1.push (.row [tx z.1.1, .bool z.1.2.dir, tx z.1.2.own, .int .i64 z.1.2.mode, .slice z.2.1 z.1.2.data.length z.2.2] 47 5 true false)) := ⟨rfl, k2.tail⟩
    generalize findE xs who p = y at *
    refine awpL_restE (by simp [go_sem]; exact ⟨rfl, rfl⟩) ?_; try dsimp only [thn, inBlk]
    (repeat' first
      | refine AWP.seq ?_
      | refine AWP.block ?_
      | (refine AWP.skip ?_; try dsimp only [thn, inBlk])
      | (refine AWP.exit ?_; try simp only [thn, inBlk, if_true, reduceIte, Nat.reduceEqDiff])
      | (refine AWP.ret ?_; try dsimp only [thn, inBlk])
      | (refine AWP.condT ?_ ?_; (focus (simp [go_sem, hc']; done)))
      | (refine AWP.condF ?_ ?_; (focus (simp [go_sem, hc']; done)))
      | (apply AWP.rE; (focus (simp [go_sem, hc']; exact ⟨rfl, rfl⟩)); try dsimp only [thn, inBlk])
      | fail)
    simp [bodyQ, thn, inBlk, resA, resV, go_sem]
    exact b
  rcases hzz with ⟨_, _, hz1, hz2⟩ | ⟨hz0, _⟩
  rotate_left
  · exact absurd hc hz0
  have hc' : (findE xs who p != 0) = false := by simpa using hc
  by_cases h1 : p = [47]
  · have e : srcR xs who p all = (1, []) := by unfold srcR; rw [if_pos hc, if_pos h1]
    rw [e]
    have e1 : strA .eql ⟨p.toArray⟩ ⟨#[47]⟩ = some (.bool true) := by have := strA_eql p [47]; rw [h1] at this ⊢; exact this
    have b : RStrP O R i v zs (1, []) (.tuple #[tx [], .int .i64 1]) (hh1.push (.row [tx z.1.1, .bool z.1.2.dir, tx z.1.2.own, .int .i64 z.1.2.mode, .slice z.2.1 z.1.2.data.length z.2.2] 47 5 true false)) := ⟨rfl, k2.tail⟩
    clear h1
    generalize findE xs who p = y at *
    refine awpL_restE (by simp [go_sem]; exact ⟨rfl, rfl⟩) ?_; try dsimp only [thn, inBlk]
    (repeat' first
      | refine AWP.seq ?_
      | refine AWP.block ?_
      | (refine AWP.skip ?_; try dsimp only [thn, inBlk])
      | (refine AWP.exit ?_; try simp only [thn, inBlk, if_true, reduceIte, Nat.reduceEqDiff])
      | (refine AWP.ret ?_; try dsimp only [thn, inBlk])
      | (refine AWP.condT ?_ ?_; (focus (simp [go_sem, hc', hc, e1]; done)))
      | (refine AWP.condF ?_ ?_; (focus (simp [go_sem, hc', hc, e1]; done)))
      | (apply AWP.rE; (focus (simp [go_sem, hc', hc, e1]; exact ⟨rfl, rfl⟩)); try dsimp only [thn, inBlk])
      | fail)
    simp [bodyQ, thn, inBlk, resA, resV, go_sem]
    exact b
  have e1 : strA .eql ⟨p.toArray⟩ ⟨#[47]⟩ = some (.bool false) := by
    have := strA_eql p [47]
    rw [show (p == [47]) = false by simpa using h1] at this; exact this
  have e0 : srcR xs who p all = if (z.1.2.dir && !all) = true then (113, []) else strR xs who 400 z.1 := by
    unfold srcR; rw [if_pos hc, if_neg h1, hz2]; dsimp only
    obtain ⟨⟨zp, zn⟩, zw⟩ := z; dsimp only at hz1 ⊢; rw [hz1]
  rw [e0]
  clear e0
  obtain ⟨⟨zp, ⟨zd, zo, zm, zdt⟩⟩, za, zc⟩ := z
  dsimp only at hz1 hz2 k2 c2 ⊢
  generalize findE xs who p = y at *
  cases zd
  · rw [show (false && !all) = false from rfl, if_neg (by decide)]
    refine awpL_restE (by simp [go_sem]; exact ⟨rfl, rfl⟩) ?_; try dsimp only [thn, inBlk]
    (repeat' first
      | refine AWP.seq ?_
      | refine AWP.block ?_
      | (refine AWP.skip ?_; try dsimp only [thn, inBlk])
      | (refine AWP.exit ?_; try simp only [thn, inBlk, if_true, reduceIte, Nat.reduceEqDiff])
      | (refine AWP.ret ?_; try dsimp only [thn, inBlk])
      | (refine AWP.condT ?_ ?_; (focus (simp [go_sem, hc', hc, e1, c2]; done)))
      | (refine AWP.condF ?_ ?_; (focus (simp [go_sem, hc', hc, e1, c2]; done)))
      | (apply AWP.rE; (focus (simp [go_sem, hc', hc, e1, c2]; exact ⟨rfl, rfl⟩)); try dsimp only [thn, inBlk])
      | fail)
    refine AWP.callE (by simp [go_sem, c2]; exact ⟨rfl, rfl, rfl, rfl, rfl⟩) (by kernel_rfl) ?_
    refine (rstr_calls hT hr hz hw 400 (z := ((zp, ⟨false, zo, zm, zdt⟩), za, zc)) (fun z hzm hh kk => hB z hzm hh kk.tail) k2.b2.b2 (by rw [hz1]; exact hz2) (by rw [hz1]; exact h1) (by dsimp only; omega)).mono ?_
    rintro r h5 ⟨rfl, k5⟩
    have hS : RStrP O R i v zs (strR xs who 400 (zp, ⟨false, zo, zm, zdt⟩)) (.tuple #[tx (strR xs who 400 (zp, ⟨false, zo, zm, zdt⟩)).2, .int .i64 (strR xs who 400 (zp, ⟨false, zo, zm, zdt⟩)).1]) h5 := ⟨rfl, k5.d2⟩
    generalize (strR xs who 400 (zp, ⟨false, zo, zm, zdt⟩)) = S at *
    obtain ⟨S1, S2⟩ := S
    dsimp only at hS ⊢
    refine awpL_restE (by simp [go_sem]; exact ⟨rfl, rfl⟩) ?_; try dsimp only [thn, inBlk]
    (repeat' first
      | refine AWP.seq ?_
      | refine AWP.block ?_
      | (refine AWP.skip ?_; try dsimp only [thn, inBlk])
      | (refine AWP.exit ?_; try simp only [thn, inBlk, if_true, reduceIte, Nat.reduceEqDiff])
      | (refine AWP.ret ?_; try dsimp only [thn, inBlk])
      | (refine AWP.condT ?_ ?_; (focus (simp [go_sem]; done)))
      | (refine AWP.condF ?_ ?_; (focus (simp [go_sem]; done)))
      | (apply AWP.rE; (focus (simp [go_sem]; exact ⟨rfl, rfl⟩)); try dsimp only [thn, inBlk])
      | fail)
    simp [bodyQ, thn, inBlk, resA, resV, go_sem]
    exact hS
  cases all
  · have b : RStrP O R i v zs (113, []) (.tuple #[tx [], .int .i64 113]) (hh1.push (.row [tx zp, .bool true, tx zo, .int .i64 zm, .slice za zdt.length zc] 47 5 true false)) := ⟨rfl, k2.tail⟩
    rw [show (true && !false) = true from rfl, if_pos rfl]
    refine awpL_restE (by simp [go_sem]; exact ⟨rfl, rfl⟩) ?_; try dsimp only [thn, inBlk]
    (repeat' first
      | refine AWP.seq ?_
      | refine AWP.block ?_
      | (refine AWP.skip ?_; try dsimp only [thn, inBlk])
      | (refine AWP.exit ?_; try simp only [thn, inBlk, if_true, reduceIte, Nat.reduceEqDiff])
      | (refine AWP.ret ?_; try dsimp only [thn, inBlk])
      | (refine AWP.condT ?_ ?_; (focus (simp [go_sem, hc', hc, e1, c2]; done)))
      | (refine AWP.condF ?_ ?_; (focus (simp [go_sem, hc', hc, e1, c2]; done)))
      | (apply AWP.rE; (focus (simp [go_sem, hc', hc, e1, c2]; exact ⟨rfl, rfl⟩)); try dsimp only [thn, inBlk])
      | fail)
    simp [bodyQ, thn, inBlk, resA, resV, go_sem]
    exact b
  · rw [show (true && !true) = false from rfl, if_neg (by decide)]
    refine awpL_restE (by simp [go_sem]; exact ⟨rfl, rfl⟩) ?_; try dsimp only [thn, inBlk]
    (repeat' first
      | refine AWP.seq ?_
      | refine AWP.block ?_
      | (refine AWP.skip ?_; try dsimp only [thn, inBlk])
      | (refine AWP.exit ?_; try simp only [thn, inBlk, if_true, reduceIte, Nat.reduceEqDiff])
      | (refine AWP.ret ?_; try dsimp only [thn, inBlk])
      | (refine AWP.condT ?_ ?_; (focus (simp [go_sem, hc', hc, e1, c2]; done)))
      | (refine AWP.condF ?_ ?_; (focus (simp [go_sem, hc', hc, e1, c2]; done)))
      | (apply AWP.rE; (focus (simp [go_sem, hc', hc, e1, c2]; exact ⟨rfl, rfl⟩)); try dsimp only [thn, inBlk])
      | fail)
    refine AWP.callE (by simp [go_sem, c2]; exact ⟨rfl, rfl, rfl, rfl, rfl⟩) (by kernel_rfl) ?_
    refine (rstr_calls hT hr hz hw 400 (z := ((zp, ⟨true, zo, zm, zdt⟩), za, zc)) (fun z hzm hh kk => hB z hzm hh kk.tail) k2.b2.b2 (by rw [hz1]; exact hz2) (by rw [hz1]; exact h1) (by dsimp only; omega)).mono ?_
    rintro r h5 ⟨rfl, k5⟩
    have hS : RStrP O R i v zs (strR xs who 400 (zp, ⟨true, zo, zm, zdt⟩)) (.tuple #[tx (strR xs who 400 (zp, ⟨true, zo, zm, zdt⟩)).2, .int .i64 (strR xs who 400 (zp, ⟨true, zo, zm, zdt⟩)).1]) h5 := ⟨rfl, k5.d2⟩
    generalize (strR xs who 400 (zp, ⟨true, zo, zm, zdt⟩)) = S at *
    obtain ⟨S1, S2⟩ := S
    dsimp only at hS ⊢
    refine awpL_restE (by simp [go_sem]; exact ⟨rfl, rfl⟩) ?_; try dsimp only [thn, inBlk]
    (repeat' first
      | refine AWP.seq ?_
      | refine AWP.block ?_
      | (refine AWP.skip ?_; try dsimp only [thn, inBlk])
      | (refine AWP.exit ?_; try simp only [thn, inBlk, if_true, reduceIte, Nat.reduceEqDiff])
      | (refine AWP.ret ?_; try dsimp only [thn, inBlk])
      | (refine AWP.condT ?_ ?_; (focus (simp [go_sem]; done)))
      | (refine AWP.condF ?_ ?_; (focus (simp [go_sem]; done)))
      | (apply AWP.rE; (focus (simp [go_sem]; exact ⟨rfl, rfl⟩)); try dsimp only [thn, inBlk])
      | fail)
    simp [bodyQ, thn, inBlk, resA, resV, go_sem]
    exact hS
end
end L23
end

section
open Go Ab Go.Proofs
namespace L23
set_option autoImplicit false
set_option linter.unusedSimpArgs false
set_option linter.unusedVariables false
def spO : Op := (⟨false, [114, 111, 111, 116], [47, 102], 60⟩, [97, 98])
set_option maxRecDepth 100000 in
theorem sp_src : srcR (laidT [spO]) [114, 111, 111, 116] [47, 102] false = (0, [67, 55, 52, 32, 50, 32, 102, 10, 97, 98, 0]) := by decide +kernel
theorem TS.sp : TS (laidT [spO]) := TS.laid (l := [spO]) (fun o ho => by rw [List.mem_singleton.1 ho]; exact ⟨by decide, by decide, by decide⟩) TS.top
theorem star_bytes {O : Old} {h : AHeap} {R : List Chunk} {zs : List NZ} {z : NZ} (hz : z ∈ zs) (k : Own O h (star (zs.map sb) :: R)) : Bytes h (.slice z.2.1 z.1.2.data.length z.2.2) z.1.2.data := by
  obtain ⟨j, hj⟩ := List.mem_iff_getElem?.1 hz
  exact ((Own.star_iff.1 k).mem (A := sb z) (j := j) (by rw [List.getElem?_map, hj]; rfl)).ob_bytes
section
variable {O : Old} {h : AHeap} {R : List Chunk}
set_option maxRecDepth 100000 in
set_option maxHeartbeats 16000000 in
theorem speaks_calls (g : GP O) (k : Own O h R) : ACalls Tryz.prog 8 #[] h fun r h' => r = .bool true ∧ Own O h' R := by
  refine ACalls.of_awp (args := []) (n := 27) Tryz.func8 rfl rfl (by show 0 ≤ 27; omega) ?_
  have bl : h.base ≤ h.next := k.ble
  have k2 : Own O ((h.push (.row [.int .u8 97, .int .u8 98] 5 1 true false)).push (.row [.bool false, tx [114, 111, 111, 116], tx [47, 102], .int .i64 60, .slice (some ⟨h.next, 0, none⟩) 2 2] 60 5 true false)) (cell (h.next + 1) (.row [.bool false, tx [114, 111, 111, 116], tx [47, 102], .int .i64 60, .slice (some ⟨h.next, 0, none⟩) 2 2] 60 5 true false) :: cell h.next (.row [.int .u8 97, .int .u8 98] 5 1 true false) :: R) := (k.push _).push _
  have hx : ∀ hh, Own O hh (cell (h.next + 1) (.row [.bool false, tx [114, 111, 111, 116], tx [47, 102], .int .i64 60, .slice (some ⟨h.next, 0, none⟩) 2 2] 60 5 true false) :: cell h.next (.row [.int .u8 97, .int .u8 98] 5 1 true false) :: R) → OpsA hh (.slice (some ⟨h.next + 1, 0, none⟩) 1 1) [spO] [(some ⟨h.next, 0, none⟩, 2)] := fun hh kk => by
    have ka : Own O hh (os 60 5 (.slice (some ⟨h.next + 1, 0, none⟩) 1 1) 1 [.bool false, tx [114, 111, 111, 116], tx [47, 102], .int .i64 60, .slice (some ⟨h.next, 0, none⟩) 2 2] :: cell h.next (.row [.int .u8 97, .int .u8 98] 5 1 true false) :: R) := kk.os_mk (Nat.le_refl _) (by simp) (by simp)
    have kb : Own O hh (ob 5 (.slice (some ⟨h.next, 0, none⟩) 2 2) [97, 98] :: R) := kk.tail.os_mk (Nat.le_refl _) (by simp) (by simp [B])
    refine ⟨rfl, ka.os_sl, fun j f p hf hp => ?_⟩
    rcases j with _ | j
    · simp at hf hp; subst hf; subst hp; exact kb.ob_bytes
    · simp at hf
  (repeat' first
    | refine AWP.seq ?_
    | refine AWP.block ?_
    | (refine AWP.skip ?_; try dsimp only [thn, inBlk])
    | (refine AWP.exit ?_; try simp only [thn, inBlk, if_true, reduceIte, Nat.reduceEqDiff])
    | (refine AWP.ret ?_; try dsimp only [thn, inBlk])
    | (refine AWP.condT ?_ ?_; (focus (simp [go_sem]; done)))
    | (refine AWP.condF ?_ ?_; (focus (simp [go_sem]; done)))
    | (apply AWP.rE; (focus (simp [go_sem]; exact ⟨rfl, rfl⟩)); try dsimp only [thn, inBlk])
    | fail)
  refine AWP.callE (by simp [go_sem, convS, Ab.strR, bl]; exact ⟨rfl, rfl, rfl, rfl, rfl⟩) (by kernel_rfl) ?_
  refine (laid_calls k2 hx (by simp) (fun o ho => by rw [List.mem_singleton.1 ho]; exact ⟨by decide, by decide, by decide⟩)).mono ?_
  rintro r h1 ⟨i, ib, xs, rfl, hr, k3⟩
  refine awpL_restE (by simp [go_sem]; exact ⟨rfl, rfl⟩) ?_; try dsimp only [thn, inBlk]
  (repeat' first
    | refine AWP.seq ?_
    | refine AWP.block ?_
    | (refine AWP.skip ?_; try dsimp only [thn, inBlk])
    | (refine AWP.exit ?_; try simp only [thn, inBlk, if_true, reduceIte, Nat.reduceEqDiff])
    | (refine AWP.ret ?_; try dsimp only [thn, inBlk])
    | (refine AWP.condT ?_ ?_; (focus (simp [go_sem]; done)))
    | (refine AWP.condF ?_ ?_; (focus (simp [go_sem]; done)))
    | (apply AWP.rE; (focus (simp [go_sem]; exact ⟨rfl, rfl⟩)); try dsimp only [thn, inBlk])
    | fail)
  refine AWP.callE (by simp [go_sem]; exact ⟨rfl, rfl, rfl, rfl, rfl⟩) (by kernel_rfl) ?_
  refine (source_calls (all := false) (who := [114, 111, 111, 116]) (p := [47, 102]) TS.sp g (by simp) k3 (by simp)).mono ?_
  rintro r h2 ⟨a, cap, rfl, k4⟩
  rw [sp_src] at k4 ⊢
  dsimp only at k4 ⊢
  obtain ⟨L, hL⟩ : ∃ L : List UInt8, L = [67, 55, 52, 32, 50, 32, 102, 10, 97, 98, 0] := ⟨_, rfl⟩
  rw [← hL] at k4 ⊢
  have s1 := k4.ob_bytes.str (P := Tryz.prog) (t := 32) (e := 5) (u := 9) Tryz.underlying32 Tryz.underlying5 Tryz.underlying9
  have e1 : strA .eql ⟨L.toArray⟩ ⟨#[67, 55, 52, 32, 50, 32, 102, 10, 97, 98, 0]⟩ = some (.bool true) := by
    have := strA_eql L [67, 55, 52, 32, 50, 32, 102, 10, 97, 98, 0]
    rw [show (L == [67, 55, 52, 32, 50, 32, 102, 10, 97, 98, 0]) = true by rw [hL]; rfl] at this; exact this
  refine awpL_restE (by simp [go_sem, s1]; exact ⟨rfl, rfl⟩) ?_; try dsimp only [thn, inBlk]
  (repeat' first
    | refine AWP.seq ?_
    | refine AWP.block ?_
    | (refine AWP.skip ?_; try dsimp only [thn, inBlk])
    | (refine AWP.exit ?_; try simp only [thn, inBlk, if_true, reduceIte, Nat.reduceEqDiff])
    | (refine AWP.ret ?_; try dsimp only [thn, inBlk])
    | (refine AWP.condT ?_ ?_; (focus (simp [go_sem, s1, e1]; done)))
    | (refine AWP.condF ?_ ?_; (focus (simp [go_sem, s1, e1]; done)))
    | (apply AWP.rE; (focus (simp [go_sem, s1, e1]; exact ⟨rfl, rfl⟩)); try dsimp only [thn, inBlk])
    | fail)
  simp [bodyQ, thn, inBlk, resA, resV, go_sem]
  exact k4.tail.tail.tail.tail.tail
/-- Copy: what came in. -/
structure Cp where
  who : List UInt8
  fr : List UInt8
  to : List UInt8
  all : Bool
  modes : Bool
abbrev crow (c : Cp) (v : Value) : List Value := [tx c.who, tx c.fr, tx c.to, .bool c.all, .bool c.modes, v]
set_option maxRecDepth 100000 in
set_option maxHeartbeats 32000000 in
theorem sources_calls {h : AHeap} {v cv : Value} {s1 : List Op} {c : Cp} (g : GP h.asOld) (hb : h.base = h.next) (hp : BR preO 5 h v s1) (hn1 : s1.length ≤ 9223372036854775807) :
    ACalls Tryz.prog 3 #[v, .agg (crow c cv).toArray] h fun r _ => r = .bool true := by
  refine Own.of_wf fun k0 => ?_
  obtain ⟨ac, A0⟩ := OpsA.of_br hp
  obtain ⟨va, vc, rfl⟩ := hp.val
  refine ACalls.of_awp (args := [.slice va s1.length vc, .agg (crow c cv).toArray]) (n := 74) Tryz.func3 rfl rfl (by show 2 ≤ 74; omega) ?_
  obtain ⟨cw, cf, ct, ca, cm⟩ := c
  have k1 := k0.push (.row [tx cw, tx cf, tx ct, .bool ca, .bool cm, cv] 25 6 true false)
  (repeat' first
    | refine AWP.seq ?_
    | refine AWP.block ?_
    | (refine AWP.skip ?_; try dsimp only [thn, inBlk])
    | (refine AWP.exit ?_; try simp only [thn, inBlk, if_true, reduceIte, Nat.reduceEqDiff])
    | (refine AWP.ret ?_; try dsimp only [thn, inBlk])
    | (refine AWP.condT ?_ ?_; (focus (simp [go_sem]; done)))
    | (refine AWP.condF ?_ ?_; (focus (simp [go_sem]; done)))
    | (apply AWP.rE; (focus (simp [go_sem]; exact ⟨rfl, rfl⟩)); try dsimp only [thn, inBlk])
    | fail)
  refine AWP.callE (by simp [go_sem]; exact ⟨rfl, rfl, rfl, rfl, rfl⟩) (by kernel_rfl) ?_
  refine (speaks_calls g k1).mono ?_
  rintro r h1 ⟨rfl, k2⟩
  have c2 := k2.obj
  refine awpL_restE (by simp [go_sem]; exact ⟨rfl, rfl⟩) ?_; try dsimp only [thn, inBlk]
  (repeat' first
    | refine AWP.seq ?_
    | refine AWP.block ?_
    | (refine AWP.skip ?_; try dsimp only [thn, inBlk])
    | (refine AWP.exit ?_; try simp only [thn, inBlk, if_true, reduceIte, Nat.reduceEqDiff])
    | (refine AWP.ret ?_; try dsimp only [thn, inBlk])
    | (refine AWP.condT ?_ ?_; (focus (simp [go_sem]; done)))
    | (refine AWP.condF ?_ ?_; (focus (simp [go_sem]; done)))
    | (apply AWP.rE; (focus (simp [go_sem]; exact ⟨rfl, rfl⟩)); try dsimp only [thn, inBlk])
    | fail)
  refine AWP.callE (by simp [go_sem]; exact ⟨rfl, rfl, rfl, rfl, rfl⟩) (by kernel_rfl) ?_
  refine (great_calls k2 (fun hh kk => A0.of_old hb kk) hn1).mono ?_
  rintro r h2 ⟨b1, rfl, g1, k3⟩
  have c3 := k3.obj
  cases b1
  rotate_left
  · refine awpL_restE (by simp [go_sem, c3]; exact ⟨rfl, rfl⟩) ?_; try dsimp only [thn, inBlk]
    (repeat' first
      | refine AWP.seq ?_
      | refine AWP.block ?_
      | (refine AWP.skip ?_; try dsimp only [thn, inBlk])
      | (refine AWP.exit ?_; try simp only [thn, inBlk, if_true, reduceIte, Nat.reduceEqDiff])
      | (refine AWP.ret ?_; try dsimp only [thn, inBlk])
      | (refine AWP.condT ?_ ?_; (focus (simp [go_sem]; done)))
      | (refine AWP.condF ?_ ?_; (focus (simp [go_sem]; done)))
      | (apply AWP.rE; (focus (simp [go_sem]; exact ⟨rfl, rfl⟩)); try dsimp only [thn, inBlk])
      | fail)
    simp [bodyQ, thn, inBlk, resA, resV, go_sem]
  obtain ⟨l1, o1⟩ := g1 rfl
  by_cases f1 : 200 < cf.length
  · have f1' : (200 : Int) < cf.length := by omega
    refine awpL_restE (by simp [go_sem, c3, f1']; exact ⟨rfl, rfl⟩) ?_; try dsimp only [thn, inBlk]
    (repeat' first
      | refine AWP.seq ?_
      | refine AWP.block ?_
      | (refine AWP.skip ?_; try dsimp only [thn, inBlk])
      | (refine AWP.exit ?_; try simp only [thn, inBlk, if_true, reduceIte, Nat.reduceEqDiff])
      | (refine AWP.ret ?_; try dsimp only [thn, inBlk])
      | (refine AWP.condT ?_ ?_; (focus (simp [go_sem]; done)))
      | (refine AWP.condF ?_ ?_; (focus (simp [go_sem]; done)))
      | (apply AWP.rE; (focus (simp [go_sem]; exact ⟨rfl, rfl⟩)); try dsimp only [thn, inBlk])
      | fail)
    simp [bodyQ, thn, inBlk, resA, resV, go_sem]
  have f1' : ¬ (200 : Int) < cf.length := by omega
  by_cases f2 : 100 < cw.length
  · have f2' : (100 : Int) < cw.length := by omega
    refine awpL_restE (by simp [go_sem, c3, f1', f2']; exact ⟨rfl, rfl⟩) ?_; try dsimp only [thn, inBlk]
    (repeat' first
      | refine AWP.seq ?_
      | refine AWP.block ?_
      | (refine AWP.skip ?_; try dsimp only [thn, inBlk])
      | (refine AWP.exit ?_; try simp only [thn, inBlk, if_true, reduceIte, Nat.reduceEqDiff])
      | (refine AWP.ret ?_; try dsimp only [thn, inBlk])
      | (refine AWP.condT ?_ ?_; (focus (simp [go_sem]; done)))
      | (refine AWP.condF ?_ ?_; (focus (simp [go_sem]; done)))
      | (apply AWP.rE; (focus (simp [go_sem]; exact ⟨rfl, rfl⟩)); try dsimp only [thn, inBlk])
      | fail)
    simp [bodyQ, thn, inBlk, resA, resV, go_sem]
  have f2' : ¬ (100 : Int) < cw.length := by omega
  refine awpL_restE (by simp [go_sem, c3, f1', f2']; exact ⟨rfl, rfl⟩) ?_; try dsimp only [thn, inBlk]
  (repeat' first
    | refine AWP.seq ?_
    | refine AWP.block ?_
    | (refine AWP.skip ?_; try dsimp only [thn, inBlk])
    | (refine AWP.exit ?_; try simp only [thn, inBlk, if_true, reduceIte, Nat.reduceEqDiff])
    | (refine AWP.ret ?_; try dsimp only [thn, inBlk])
    | (refine AWP.condT ?_ ?_; (focus (simp [go_sem]; done)))
    | (refine AWP.condF ?_ ?_; (focus (simp [go_sem]; done)))
    | (apply AWP.rE; (focus (simp [go_sem]; exact ⟨rfl, rfl⟩)); try dsimp only [thn, inBlk])
    | fail)
  refine AWP.callE (by simp [go_sem]; exact ⟨rfl, rfl, rfl, rfl, rfl⟩) (by kernel_rfl) ?_
  refine (laid_calls k3 (fun hh kk => A0.of_old hb kk) l1 o1).mono ?_
  rintro r h4 ⟨i, ib, xs, rfl, hr, k4⟩
  have hT : TS (laidT s1) := TS.laid o1 TS.top
  generalize laidT s1 = T at *
  have c4 := k4.b2.obj
  refine awpL_restE (by simp [go_sem]; exact ⟨rfl, rfl⟩) ?_; try dsimp only [thn, inBlk]
  (repeat' first
    | refine AWP.seq ?_
    | refine AWP.block ?_
    | (refine AWP.skip ?_; try dsimp only [thn, inBlk])
    | (refine AWP.exit ?_; try simp only [thn, inBlk, if_true, reduceIte, Nat.reduceEqDiff])
    | (refine AWP.ret ?_; try dsimp only [thn, inBlk])
    | (refine AWP.condT ?_ ?_; (focus (simp [go_sem, c4]; done)))
    | (refine AWP.condF ?_ ?_; (focus (simp [go_sem, c4]; done)))
    | (apply AWP.rE; (focus (simp [go_sem, c4]; exact ⟨rfl, rfl⟩)); try dsimp only [thn, inBlk])
    | fail)
  refine AWP.callE (by simp [go_sem, c4]; exact ⟨rfl, rfl, rfl, rfl, rfl⟩) (by kernel_rfl) ?_
  refine (source_calls (all := ca) (who := cw) (p := cf) hT g (by omega) k4 (by omega)).mono ?_
  rintro r h5 ⟨a5, n5, rfl, k5⟩
  obtain ⟨v2, k6⟩ := rts_iff.1 k5.b2
  obtain ⟨zs, hz, k7⟩ := nds_zs.1 k6.b1
  have k8 : Own h.asOld h5 (star (zs.map sb) :: nzs v2 zs :: cell ib (rrow v2) :: ob 5 (.slice a5 (srcR T cw cf ca).2.length n5) (srcR T cw cf ca).2 :: tr i T :: cell h.next (.row [tx cw, tx cf, tx ct, .bool ca, .bool cm, cv] 25 6 true false) :: []) := Own.star_iff.2 (k7.perm List.perm_middle.symm)
  have k9 : Own h.asOld h5 (cell ib (rrow v2) :: nzs v2 zs :: star (zs.map sb) :: ob 5 (.slice a5 (srcR T cw cf ca).2.length n5) (srcR T cw cf ca).2 :: tr i T :: cell h.next (.row [tx cw, tx cf, tx ct, .bool ca, .bool cm, cv] 25 6 true false) :: []) := k8.b1.b2
  have c5 := k9.b5.obj
  refine awpL_restE (by simp [go_sem]; exact ⟨rfl, rfl⟩) ?_; try dsimp only [thn, inBlk]
  (repeat' first
    | refine AWP.seq ?_
    | refine AWP.block ?_
    | (refine AWP.skip ?_; try dsimp only [thn, inBlk])
    | (refine AWP.exit ?_; try simp only [thn, inBlk, if_true, reduceIte, Nat.reduceEqDiff])
    | (refine AWP.ret ?_; try dsimp only [thn, inBlk])
    | (refine AWP.condT ?_ ?_; (focus (simp [go_sem, c5]; done)))
    | (refine AWP.condF ?_ ?_; (focus (simp [go_sem, c5]; done)))
    | (apply AWP.rE; (focus (simp [go_sem, c5]; exact ⟨rfl, rfl⟩)); try dsimp only [thn, inBlk])
    | fail)
  refine AWP.callE (by simp [go_sem, c5]; exact ⟨rfl, rfl, rfl, rfl, rfl⟩) (by kernel_rfl) ?_
  refine (rsource_calls (all := ca) (who := cw) (p := cf) hT hr hz (by omega) (fun z hzm hh kk => star_bytes hzm kk) k9 (by omega)).mono ?_
  rintro r h6 ⟨rfl, k10⟩
  rw [hr.src hT]
  have s1 := k10.b3.ob_bytes.str (P := Tryz.prog) (t := 32) (e := 5) (u := 9) Tryz.underlying32 Tryz.underlying5 Tryz.underlying9
  generalize srcR T cw cf ca = S at *
  obtain ⟨e5, S⟩ := S
  dsimp only at k10 s1 ⊢
  have e1 : strA .eql ⟨S.toArray⟩ ⟨S.toArray⟩ = some (.bool true) := by
    have := strA_eql S S
    rw [show (S == S) = true by simp] at this; exact this
  refine awpL_restE (by simp [go_sem]; exact ⟨rfl, rfl⟩) ?_; try dsimp only [thn, inBlk]
  (repeat' first
    | refine AWP.seq ?_
    | refine AWP.block ?_
    | (refine AWP.skip ?_; try dsimp only [thn, inBlk])
    | (refine AWP.exit ?_; try simp only [thn, inBlk, if_true, reduceIte, Nat.reduceEqDiff])
    | (refine AWP.ret ?_; try dsimp only [thn, inBlk])
    | (refine AWP.condT ?_ ?_; (focus (simp [go_sem]; done)))
    | (refine AWP.condF ?_ ?_; (focus (simp [go_sem]; done)))
    | (apply AWP.rE; (focus (simp [go_sem]; exact ⟨rfl, rfl⟩)); try dsimp only [thn, inBlk])
    | fail)
  refine AWP.draw hmix [.n 0 [8], .n 1 [10], .n 2 [56, 57], .n 3 [58], .n 4 [7, 59], .n 5 [60, 59], .n 6 [9, 59], .n 7 [61, 62, 59], .n 8 [59, 63], .n 9 [64], .n 10 [5, 65], .n 12 [6, 65], .n 13 [68, 65], .n 14 [69, 65], .n 15 [70, 65], .w 11 [66, 65] [15], .w 16 [67, 71, 65] [], .n 17 [65, 72], .n 18 [73]] (by kernel_rfl) ?_
  have cib0 := k10.obj
  refine awpD_callR 15 (by rfl) (by rfl) (by simp [go_sem, s1, e1, cib0]; exact ⟨rfl, rfl, rfl⟩) (by rfl) (by rfl) (by simp [go_sem]) (by simp [go_sem, s1, e1, cib0]; exact ⟨rfl, rfl⟩) (by kernel_rfl) ?_
  have kC2 : Own h.asOld h6 (nds v2 xs :: cell ib (rrow v2) :: ob 5 (.slice a5 S.length n5) S :: tr i T :: cell h.next (.row [tx cw, tx cf, tx ct, .bool ca, .bool cm, cv] 25 6 true false) :: []) := nds_zs.2 ⟨zs, hz, (Own.star_iff.1 k10.b2.b2.b1).perm List.perm_middle⟩
  refine (nodes_calls hT.toTK kC2.b3).mono ?_
  rintro r h7 ⟨a7, n7, rfl, k11⟩
  have cib1 := k11.b3.obj
  have s2 := k11.b4.ob_bytes.str (P := Tryz.prog) (t := 32) (e := 5) (u := 9) Tryz.underlying32 Tryz.underlying5 Tryz.underlying9
  refine ⟨by simp [still, go_sem, s1, s2, cib0, cib1], ?_⟩
  have B1 := nds_br k11
  have B2 := nds_br k11.b2
  rw [hr.nodes hT] at B2
  have hnl : (nodesL T).length ≤ 1000000000 := by rw [← hr.nodes hT, hr.len hT]; have := hT.mx; omega
  refine awpD_callR 0 (by rfl) (by rfl) (by simp [go_sem, s1, e1, s2, cib0, cib1]; exact ⟨rfl, rfl, rfl⟩) (by rfl) (by rfl) (by simp [go_sem]) (by simp [go_sem, s1, e1, s2, cib0, cib1]; exact ⟨rfl, rfl⟩) (by kernel_rfl) ?_
  refine (same_calls B1 B2 (by rw [List.length_map]; exact hnl)).mono ?_
  rintro r h8 ⟨rfl, rfl⟩
  refine ⟨by simp [still, go_sem, s2, cib1], ?_⟩
  refine awpD_restR (by rfl) (by simp [go_sem]; exact ⟨rfl, rfl, rfl⟩) ?_; try dsimp only [thn, inBlk]
  (repeat' first
    | refine AWP.seq ?_
    | refine AWP.block ?_
    | (refine AWP.skip ?_; try dsimp only [thn, inBlk])
    | (refine AWP.exit ?_; try simp only [thn, inBlk, if_true, reduceIte, Nat.reduceEqDiff])
    | (refine AWP.ret ?_; try dsimp only [thn, inBlk])
    | (refine AWP.condT ?_ ?_; (focus (simp [go_sem]; done)))
    | (refine AWP.condF ?_ ?_; (focus (simp [go_sem]; done)))
    | (apply AWP.rE; (focus (simp [go_sem]; exact ⟨rfl, rfl⟩)); try dsimp only [thn, inBlk])
    | fail)
  simp [bodyQ, thn, inBlk, resA, resV, go_sem]
end
/-! ### What comes in -/
def pwN : List Int := [1, 10, 100, 1000, 10000, 100000, 1000000, 10000000, 100000000, 1000000000, 10000000000, 100000000000, 1000000000000, 10000000000000, 100000000000000, 1000000000000000, 10000000000000000, 100000000000000000, 1000000000000000000, 10000000000000000000]
theorem gp_of {W : World} {l : List (String × DataW Unit)} (h : laidMetH Tryz.prog l W) (hp : (l.all fun x => x.2.handleName?.isNone) = true) (hm : l[2]? = some ("internal/strconv.uint64pow10", Lib.tabData .u64 pwN)) : GP (rows W).asOld := by
  rw [MakeChecks.laidMetH_plain _ _ _ hp] at h
  obtain ⟨h1, e, h2⟩ := tab_at (P := Tryz.prog) h hm (g := 1) (by kernel_rfl) (t := 182) (by kernel_rfl) Tryz.underlying182 (by kernel_rfl) (by kernel_rfl) (by kernel_rfl)
  exact ⟨h1, e, h2⟩
theorem cp_of {h : AHeap} {d : Dt} {cs : List Value} (q : Has Tryz.prog h d 25 cs) : ∃ (c : Cp) (v : Value), cs = crow c v := by
  have c25 : Tryz.prog.cellsOf 25 = 6 := by kernel_rfl
  have c4 : Tryz.prog.cellsOf 4 = 1 := by kernel_rfl
  have c9 : Tryz.prog.cellsOf 9 = 1 := by kernel_rfl
  have c23 : Tryz.prog.cellsOf 23 = 1 := by kernel_rfl
  obtain ⟨hl, hf⟩ := q.struct_at Tryz.underlying25
  rw [c25] at hl
  obtain ⟨d0, q0⟩ := hf 0 9 0 1 rfl c9
  obtain ⟨d1, q1⟩ := hf 1 9 1 1 rfl c9
  obtain ⟨d2, q2⟩ := hf 2 9 2 1 rfl c9
  obtain ⟨d3, q3⟩ := hf 3 4 3 1 rfl c4
  obtain ⟨d4, q4⟩ := hf 4 4 4 1 rfl c4
  obtain ⟨s0, e0, _⟩ := q0.str_inv Tryz.underlying9
  obtain ⟨s1, e1, _⟩ := q1.str_inv Tryz.underlying9
  obtain ⟨s2, e2, _⟩ := q2.str_inv Tryz.underlying9
  obtain ⟨b3, e3⟩ := q3.bool_inv Tryz.underlying4
  obtain ⟨b4, e4⟩ := q4.bool_inv Tryz.underlying4
  match cs, hl with
  | [x0, x1, x2, x3, x4, x5], _ =>
    simp at e0 e1 e2 e3 e4
    exact ⟨⟨s0, s1, s2, b3, b4⟩, x5, by rw [e0, e1, e2, e3, e4]⟩
end L23
end

