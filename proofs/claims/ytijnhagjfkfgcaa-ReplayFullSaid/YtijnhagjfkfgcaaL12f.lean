import Derived.Test.YtijnhagjfkfgcaaL12e
import Derived.Test.YtijnhagjfkfgcaaAbY4
open Go Ab Go.Proofs
namespace L12
set_option autoImplicit false
set_option linter.unusedSimpArgs false
set_option linter.unusedVariables false

/-! ### Scripts that come in -/
structure Opr where
  r : Bool
  a : Au
  now : Int
def opc (o : Opr) : List Value := .bool o.r :: (au o.a ++ [.int .i64 o.now])
structure Au.Wf (a : Au) : Prop where
  cl : a.cl.length ≤ 9223372036854775807
  tm : I64 a.tm
  no : 0 ≤ a.no ∧ a.no ≤ 18446744073709551615
  ky : a.ky.length = 16
structure Opr.Wf (o : Opr) : Prop where
  a : o.a.Wf
  now : I64 o.now
theorem Au.Wf.ok {a : Au} (h : a.Wf) (hl : a.cl.length ≤ 100) : a.Ok := ⟨by omega, h.tm, h.no, h.ky⟩

theorem au_of {h : AHeap} {d : Dt} {cs : List Value} (q : Has Try.prog h d 35 cs) : ∃ a : Au, cs = au a ∧ a.Wf := by
  have c35 : Try.prog.cellsOf 35 = 19 := by kernel_rfl
  have c9 : Try.prog.cellsOf 9 = 1 := by kernel_rfl
  have c2 : Try.prog.cellsOf 2 = 1 := by kernel_rfl
  have c31 : Try.prog.cellsOf 31 = 1 := by kernel_rfl
  have c33 : Try.prog.cellsOf 33 = 16 := by kernel_rfl
  have c5 : Try.prog.cellsOf 5 = 1 := by kernel_rfl
  obtain ⟨hl, hf⟩ := q.struct_at Try.underlying35
  rw [c35] at hl
  obtain ⟨d0, q0⟩ := hf 0 9 0 1 rfl c9
  obtain ⟨d1, q1⟩ := hf 1 2 1 1 rfl c2
  obtain ⟨d2, q2⟩ := hf 2 31 2 1 rfl c31
  obtain ⟨d3, q3⟩ := hf 3 33 3 16 rfl c33
  obtain ⟨s, e0, w0⟩ := q0.str_inv Try.underlying9
  obtain ⟨t, e1, w1⟩ := q1.int_inv Try.underlying2
  obtain ⟨n, e2, w2⟩ := q2.int_inv Try.underlying31
  obtain ⟨k, e3, w3⟩ := q3.u8s Try.underlying33 Try.underlying5 c5 c33
  match cs, hl with
  | x0 :: x1 :: x2 :: rest, hl =>
    simp at e0 e1 e2 e3 hl
    refine ⟨⟨s, t, n, k⟩, ?_, w0, ?_, ?_, w3⟩
    · rw [List.take_of_length_le (by omega)] at e3
      rw [e0, e1, e2, e3]
    · simp [Lit.wf, IntKind.min, IntKind.max, IntKind.signed, IntKind.bits] at w1; show -9223372036854775808 ≤ t ∧ t ≤ 9223372036854775807; omega
    · simp [Lit.wf, IntKind.min, IntKind.max, IntKind.signed, IntKind.bits] at w2; show 0 ≤ n ∧ n ≤ 18446744073709551615; omega
theorem op_of {h : AHeap} {d : Dt} {cs : List Value} (q : Has Try.prog h d 37 cs) : ∃ o : Opr, cs = opc o ∧ o.Wf := by
  have c37 : Try.prog.cellsOf 37 = 21 := by kernel_rfl
  have c35 : Try.prog.cellsOf 35 = 19 := by kernel_rfl
  have c4 : Try.prog.cellsOf 4 = 1 := by kernel_rfl
  have c2 : Try.prog.cellsOf 2 = 1 := by kernel_rfl
  obtain ⟨hl, hf⟩ := q.struct_at Try.underlying37
  rw [c37] at hl
  obtain ⟨d0, q0⟩ := hf 0 4 0 1 rfl c4
  obtain ⟨d1, q1⟩ := hf 1 35 1 19 rfl c35
  obtain ⟨d2, q2⟩ := hf 2 2 20 1 rfl c2
  obtain ⟨b, e0⟩ := q0.bool_inv Try.underlying4
  obtain ⟨a, e1, w1⟩ := au_of q1
  obtain ⟨n, e2, w2⟩ := q2.int_inv Try.underlying2
  refine ⟨⟨b, a, n⟩, ?_, w1, ?_⟩
  · have h1 : cs = cs.take 1 ++ ((cs.drop 1).take 19 ++ (cs.drop 20).take 1) := by
      have e3 : (cs.drop 20).take 1 = cs.drop 20 := List.take_of_length_le (by simp; omega)
      have e4 : cs.drop 20 = (cs.drop 1).drop 19 := by rw [List.drop_drop]
      rw [e3, e4, List.take_append_drop, List.take_append_drop]
    rw [h1]
    simp only [List.drop_zero] at e0
    rw [e0, e1, e2]
    rfl
  · simp [Lit.wf, IntKind.min, IntKind.max, IntKind.signed, IntKind.bits] at w2; show -9223372036854775808 ≤ n ∧ n ≤ 9223372036854775807; omega

/-- A script, as it lies. -/
def Script (h : AHeap) (v : Value) (l : List Opr) : Prop := Sl 21 h v l.length (l.map opc).flatten
theorem ops_of {h : AHeap} {d : Dt} {v : Value} (q : Has Try.prog h d 22 [v]) : ∃ l : List Opr, l.length ≤ 9223372036854775807 ∧ Script h v l ∧ ∀ o ∈ l, o.Wf := by
  have c37 : Try.prog.cellsOf 37 = 21 := by kernel_rfl
  obtain ⟨v', rs, e, h1, h2, h3⟩ := q.sl_inv Try.underlying22
  cases e
  obtain ⟨l, rfl, hl⟩ := map_of (f := opc) (p := Opr.Wf) (rs := rs) fun r hr => by
    obtain ⟨_, d, hd⟩ := h3 r hr
    exact op_of hd
  rw [c37] at h2
  rw [List.length_map] at h1 h2
  exact ⟨l, h1, h2, hl⟩
theorem aus_of {h : AHeap} {d : Dt} {v : Value} (q : Has Try.prog h d 28 [v]) : ∃ l : List Au, l.length ≤ 9223372036854775807 ∧ Sl 19 h v l.length (l.map au).flatten ∧ ∀ a ∈ l, a.Wf := by
  have c35 : Try.prog.cellsOf 35 = 19 := by kernel_rfl
  obtain ⟨v', rs, e, h1, h2, h3⟩ := q.sl_inv Try.underlying28
  cases e
  obtain ⟨l, rfl, hl⟩ := map_of (f := au) (p := Au.Wf) (rs := rs) fun r hr => by
    obtain ⟨_, d, hd⟩ := h3 r hr
    exact au_of hd
  rw [c35] at h2
  rw [List.length_map] at h1 h2
  exact ⟨l, h1, h2, hl⟩

theorem opc_len {o : Opr} (h : o.Wf) : (opc o).length = 21 := by simp [opc, h.a.ky]
theorem opc_all {l : List Opr} (h : ∀ a ∈ l, a.Wf) : ∀ x ∈ l.map opc, x.length = 21 := fun x hx => by
  obtain ⟨a, ha, rfl⟩ := List.mem_map.1 hx
  exact opc_len (h a ha)
theorem opc_0 (o : Opr) : (opc o)[0]? = some (.bool o.r) := rfl
theorem opc_1 (o : Opr) : (opc o)[1]? = some (.string ⟨o.a.cl.toArray⟩) := rfl
theorem opc_g0 (o : Opr) (h : 0 < (opc o).length) : (opc o)[0] = .bool o.r := rfl
theorem opc_g1 (o : Opr) (h : 1 < (opc o).length) : (opc o)[1] = .string ⟨o.a.cl.toArray⟩ := rfl
theorem opc_20 {o : Opr} (h : o.Wf) : (opc o)[20]? = some (.int .i64 o.now) := by
  unfold opc
  rw [List.getElem?_cons_succ, List.getElem?_append_right (by simp [h.a.ky])]
  simp [h.a.ky]
theorem opc_g20 {o : Opr} (k : o.Wf) (h : 20 < (opc o).length) : (opc o)[20] = .int .i64 o.now := by
  have := opc_20 k
  rw [List.getElem?_eq_getElem h] at this
  exact Option.some.inj this
theorem opc_au {o : Opr} (h : o.Wf) : ((opc o).drop 1).take 19 = au o.a := by
  unfold opc
  rw [List.drop_succ_cons, List.drop_zero, List.take_append_of_le_length (by simp [h.a.ky]), List.take_of_length_le (by simp [h.a.ky])]
theorem opc_ok (o : Opr) : okAll (opc o) = true := by
  rw [okAll_eq, List.all_eq_true]
  intro x hx
  simp only [opc, List.mem_cons, List.mem_append, List.mem_nil_iff, or_false] at hx
  rcases hx with rfl | hx | rfl
  · rfl
  · rcases hx with rfl | rfl | rfl | hx
    · rfl
    · rfl
    · rfl
    · obtain ⟨b, _, rfl⟩ := List.mem_map.1 hx; rfl
  · rfl
theorem opc_set {o : Opr} (h : o.Wf) : setL [.bool false, .string ⟨#[]⟩, .int .i64 0, .int .u64 0, .int .u8 0, .int .u8 0, .int .u8 0, .int .u8 0, .int .u8 0, .int .u8 0, .int .u8 0, .int .u8 0, .int .u8 0, .int .u8 0, .int .u8 0, .int .u8 0, .int .u8 0, .int .u8 0, .int .u8 0, .int .u8 0, .int .i64 0] 0 (opc o) = opc o :=
  setL_full (opc o) [] _ (by rw [opc_len h]; rfl)
/-- A step of a script. -/
theorem Script.at {h : AHeap} {v : Value} {l : List Opr} (k : Script h v l) (hw : ∀ o ∈ l, o.Wf) {j : Nat} (hj : j < l.length) :
    ∃ i off c e' sz' ti ro, indexAddrP Try.prog 22 v (.int .i64 j) = some (.pointer (some ⟨i, off, none⟩)) ∧ h.obj i = some (.row c e' sz' ti ro) ∧ off + 21 ≤ c.length ∧ (c.drop off).take 21 = opc l[j] := by
  obtain ⟨i, off, c, e', sz', ti, ro, q1, q2, q3, q4, q5⟩ := Sl.record (P := Try.prog) (t := 22) (l := l.map opc) Try.underlying22 tsz37 k (opc_all hw) (by simp) hj (kd := .i64)
  rw [List.getElem_map] at q4
  exact ⟨i, off, c, e', sz', ti, ro, q1, q2, q3, q4⟩
theorem Script.val {h : AHeap} {v : Value} {l : List Opr} (k : Script h v l) : ∃ a cap, v = .slice a l.length cap := Sl.val k

def Small (l : List Opr) : Prop := l.length ≤ 100 ∧ ∀ o ∈ l, o.a.cl.length ≤ 100
open Classical in
theorem great_calls {O : Old} {h : AHeap} {R : List Chunk} {v : Value} {l : List Opr} (k : Own O h R) (hs : ∀ h, Own O h R → Script h v l) (hw : ∀ o ∈ l, o.Wf) :
    ACalls Try.prog 8 #[v] h fun r h' => r = .bool (!decide (Small l)) ∧ Own O h' R := by
  obtain ⟨va, vc, rfl⟩ := (hs h k).val
  refine ACalls.of_awp (args := [.slice va l.length vc]) (n := 20) Try.func8 rfl rfl (by show 1 ≤ 20; omega) ?_
  by_cases h100 : 100 < l.length
  · have h100' : (100 : Int) < l.length := by omega
    have e : decide (Small l) = false := by
      rw [decide_eq_false_iff_not]
      intro hsm2
      have := hsm2.1
      omega
    rw [e]
    (repeat' first
      | refine AWP.seq ?_
      | refine AWP.block ?_
      | (refine AWP.skip ?_; try dsimp only [thn, inBlk])
      | (refine AWP.exit ?_; try simp only [thn, inBlk, if_true])
      | (refine AWP.ret ?_; try dsimp only [thn, inBlk])
      | (refine AWP.condT ?_ ?_; (focus (simp [go_sem, h100']; done)))
      | (refine AWP.condF ?_ ?_; (focus (simp [go_sem, h100']; done)))
      | (apply AWP.rE; (focus (simp [go_sem, h100']; exact ⟨rfl, rfl⟩)); try dsimp only [thn, inBlk])
      | fail)
    simp [bodyQ, thn, inBlk, resA, resV, go_sem]
    exact k
  have h100' : ¬ (100 : Int) < l.length := by omega
  (repeat' first
    | refine AWP.seq ?_
    | refine AWP.block ?_
    | (refine AWP.skip ?_; try dsimp only [thn, inBlk])
    | (refine AWP.exit ?_; try simp only [thn, inBlk, if_true])
    | (refine AWP.ret ?_; try dsimp only [thn, inBlk])
    | (refine AWP.condT ?_ ?_; (focus (simp [go_sem, h100']; done)))
    | (refine AWP.condF ?_ ?_; (focus (simp [go_sem, h100']; done)))
    | (apply AWP.rE; (focus (simp [go_sem, h100']; exact ⟨rfl, rfl⟩)); try dsimp only [thn, inBlk])
    | fail)
  refine AWP.loopR [8, 9, 10] (fun m s h' => ∃ j, j ≤ l.length ∧ m = l.length - j ∧ s = ⟨20, [(8, .slice va l.length vc), (9, .int .i64 l.length), (10, .int .i64 j)]⟩ ∧ (∀ o ∈ l.take j, o.a.cl.length ≤ 100) ∧ Own O h' R) ?_ ?_
  · exact ⟨_, 0, by omega, rfl, by simp [go_sem], by simp, k⟩
  rintro m s h' ⟨j, hj, rfl, rfl, hsm, kt⟩
  by_cases hj2 : j < l.length
  · have hj3 : (j : Int) < l.length := by omega
    have wj : IntKind.i64.wrap ((j : Int) + 1) = ((j + 1 : Nat) : Int) := by rw [wI64 (by omega) (by omega)]; omega
    obtain ⟨bi, bo, bc, be, bz, bt, br, p0, q0, g3, g2⟩ := (hs h' kt).at hw hj2
    have hx := hw _ (List.getElem_mem hj2)
    have hst : l.take (j + 1) = l.take j ++ [l[j]] := List.take_succ_eq_append_getElem hj2
    have hmem : l[j] ∈ l := List.getElem_mem hj2
    have hko := opc_ok l[j]
    have hks := opc_set hx
    have hkl := opc_len hx
    have hk1 := opc_g1 l[j]
    have hbt : br = br := rfl
    have k2 := kt.push (.row (opc l[j]) 37 21 true false)
    have q0' : (h'.push (.row [.bool false, .string ⟨#[]⟩, .int .i64 0, .int .u64 0, .int .u8 0, .int .u8 0, .int .u8 0, .int .u8 0, .int .u8 0, .int .u8 0, .int .u8 0, .int .u8 0, .int .u8 0, .int .u8 0, .int .u8 0, .int .u8 0, .int .u8 0, .int .u8 0, .int .u8 0, .int .u8 0, .int .i64 0] 37 21 true false)).obj bi = some (.row bc be bz bt br) := by
      rw [push_ne _ _ _ (fun e => by rw [e, kt.bnd _ (Nat.le_refl _)] at q0; cases q0)]; exact q0
    by_cases hcl : 100 < (l[j]).a.cl.length
    · have e : decide (Small l) = false := by
        rw [decide_eq_false_iff_not]
        intro hsm2
        have := hsm2.2 _ hmem
        omega
      have hcl' : (100 : Int) < ((l[j]).a.cl.length : Int) := by omega
      rw [e]
      generalize l[j] = o at *
      (repeat' first
        | refine AWP.seq ?_
        | refine AWP.block ?_
        | (refine AWP.skip ?_; try dsimp only [thn, inBlk])
        | (refine AWP.exit ?_; try simp only [thn, inBlk, if_true])
        | (refine AWP.ret ?_; try dsimp only [thn, inBlk])
        | (refine AWP.condT ?_ ?_; (focus (simp [go_sem, hj3, p0, q0, q0', g3, g2, hko, hks, hkl, hk1, hcl']; done)))
        | (refine AWP.condF ?_ ?_; (focus (simp [go_sem, hj3, p0, q0, q0', g3, g2, hko, hks, hkl, hk1, hcl']; done)))
        | (apply AWP.rE; (focus (simp [go_sem, hj3, p0, q0, q0', g3, g2, hko, hks, hkl, hk1, hcl']; exact ⟨rfl, rfl⟩)); try dsimp only [thn, inBlk])
        | fail)
      simp [bodyQ, thn, inBlk, resA, resV, go_sem]
      exact k2.tail
    · have hcl' : ¬ (100 : Int) < ((l[j]).a.cl.length : Int) := by omega
      generalize l[j] = o at *
      (repeat' first
        | refine AWP.seq ?_
        | refine AWP.block ?_
        | (refine AWP.skip ?_; try dsimp only [thn, inBlk])
        | (refine AWP.exit ?_; try simp only [thn, inBlk, if_true])
        | (refine AWP.ret ?_; try dsimp only [thn, inBlk])
        | (refine AWP.condT ?_ ?_; (focus (simp [go_sem, hj3, p0, q0, q0', g3, g2, hko, hks, hkl, hk1, hcl', wj]; done)))
        | (refine AWP.condF ?_ ?_; (focus (simp [go_sem, hj3, p0, q0, q0', g3, g2, hko, hks, hkl, hk1, hcl', wj]; done)))
        | (apply AWP.rE; (focus (simp [go_sem, hj3, p0, q0, q0', g3, g2, hko, hks, hkl, hk1, hcl', wj]; exact ⟨rfl, rfl⟩)); try dsimp only [thn, inBlk])
        | fail)
      refine ⟨l.length - (j + 1), by omega, j + 1, by omega, rfl, by simp [go_sem], fun x hx2 => ?_, k2.tail⟩
      rw [hst] at hx2
      rcases List.mem_append.1 hx2 with hx2 | hx2
      · exact hsm x hx2
      · simp at hx2; subst hx2; omega
  have hj3 : ¬ (j : Int) < l.length := by omega
  obtain rfl : j = l.length := by omega
  rw [List.take_of_length_le (Nat.le_refl _)] at hsm
  have e : decide (Small l) = true := by rw [decide_eq_true_iff]; exact ⟨by omega, hsm⟩
  rw [e]
  (repeat' first
    | refine AWP.seq ?_
    | refine AWP.block ?_
    | (refine AWP.skip ?_; try dsimp only [thn, inBlk])
    | (refine AWP.exit ?_; try simp only [thn, inBlk, if_true])
    | (refine AWP.ret ?_; try dsimp only [thn, inBlk])
    | (refine AWP.condT ?_ ?_; (focus (simp [go_sem, hj3]; done)))
    | (refine AWP.condF ?_ ?_; (focus (simp [go_sem, hj3]; done)))
    | (apply AWP.rE; (focus (simp [go_sem, hj3]; exact ⟨rfl, rfl⟩)); try dsimp only [thn, inBlk])
    | fail)
  simp [bodyQ, thn, inBlk, resA, resV, go_sem]
  exact kt
end L12
