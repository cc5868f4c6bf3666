import Derived.Test.YteodcjamnfoidaaDoorL19z
open Go Ab Go.Proofs
namespace L19
set_option autoImplicit false
set_option linter.unusedSimpArgs false
set_option linter.unusedVariables false

/-- Steps that came in, their addresses known. -/
structure OpsA (h : AHeap) (v : Value) (l : List Op) (ac : List (Option Addr × Nat)) : Prop where
  len : ac.length = l.length
  sl : Sl 6 h v l.length (rcells preO l ac).flatten
  bd : ∀ (j : Nat) (f : Op) (p : Option Addr × Nat), l[j]? = some f → ac[j]? = some p → Bytes h (.slice p.1 f.2.length p.2) f.2
theorem ops_row {h hh : AHeap} {L : List Chunk} {v : Value} {l : List Op} {ac : List (Option Addr × Nat)} (k : OpsA h v l ac) (hb : h.base = h.next) (o : Own h.asOld hh L) {j : Nat} {f : Op} {p : Option Addr × Nat} (hf : l[j]? = some f) (hp : ac[j]? = some p) {kd : IntKind} :
    ∃ i off c e' sz' ti ro, indexAddrP Tryd.prog 34 v (.int kd j) = some (.pointer (some ⟨i, off, none⟩)) ∧ hh.obj i = some (.row c e' sz' ti ro) ∧ off + 6 ≤ c.length ∧ (c.drop off).take 6 = orow f p.1 p.2 := by
  obtain ⟨hj, _⟩ := List.getElem?_eq_some_iff.1 hf
  obtain ⟨i, off, c, e', sz', ti, ro, q1, q2, q3, q4, q5⟩ := (k.sl.of_old hb o).record (P := Tryd.prog) (t := 34) Tryd.underlying34 tsz37 (rcells_all (pre := preO) (sz := 6) (fun _ => rfl) ac) (rcells_length k.len) hj (kd := kd)
  have hr : (rcells preO l ac)[j]? = some (orow f p.1 p.2) := by simp [rcells, List.getElem?_zipWith, hf, hp, rec1, preO]
  rw [List.getElem?_eq_getElem (by rw [rcells_length k.len]; exact hj)] at hr
  exact ⟨i, off, c, e', sz', ti, ro, q1, q2, q3, by rw [q4]; exact Option.some.inj hr⟩
theorem and56 (z : Int) : ∃ x : Nat, x ≤ 56 ∧ x % 8 = 0 ∧ IntKind.i64.wrap ((@BitVec.toNat 64 (@HAnd.hAnd (BitVec 64) (BitVec 64) (BitVec 64) (@instHAndOfAndOp (BitVec IntKind.i64.bits) (@BitVec.instAndOp IntKind.i64.bits)) (BitVec.ofInt 64 z) (BitVec.ofNat 64 56)) : Nat) : Int) = (x : Int) := by
  have h : (BitVec.ofInt 64 z &&& BitVec.ofNat 64 56).toNat ≤ 56 := by
    rw [BitVec.toNat_and, BitVec.toNat_ofNat]
    exact Nat.le_trans Nat.and_le_right (Nat.mod_le _ _)
  have h2 : (BitVec.ofInt 64 z &&& BitVec.ofNat 64 56).toNat % 8 = 0 := by
    rw [BitVec.toNat_and]
    have h1 : ((BitVec.ofInt 64 z).toNat &&& (BitVec.ofNat 64 56).toNat) % 2 ^ 3 = ((BitVec.ofInt 64 z).toNat % 2 ^ 3) &&& ((BitVec.ofNat 64 56).toNat % 2 ^ 3) := Nat.and_mod_two_pow
    have h3 : (BitVec.ofNat 64 56).toNat % 2 ^ 3 = 0 := rfl
    rw [h3, Nat.and_zero] at h1
    exact h1
  exact ⟨_, h, h2, wI64 (by omega) (by exact Int.le_trans (Int.ofNat_le.2 h) (by omega))⟩

set_option maxHeartbeats 16000000 in
theorem stranger_calls {h : AHeap} {v w : Value} {s1 s2 : List Op} (hb : h.base = h.next) (hp : BR preO 6 h v s1) (hq : BR preO 6 h w s2) (hn1 : s1.length ≤ 9223372036854775807) (hn2 : s2.length ≤ 9223372036854775807) :
    ACalls Tryd.prog 7 #[v, w] h fun r _ => r = .bool true := by
  refine Own.of_wf fun k0 => ?_
  obtain ⟨ac1, la1, sl1, bd1⟩ := id hp
  obtain ⟨ac2, la2, sl2, bd2⟩ := id hq
  have A1 : OpsA h v s1 ac1 := ⟨la1, sl1, bd1⟩
  have A2 : OpsA h w s2 ac2 := ⟨la2, sl2, bd2⟩
  obtain ⟨va, vc, rfl⟩ := hp.val
  obtain ⟨wa, wc, rfl⟩ := hq.val
  refine ACalls.of_awp (args := [.slice va s1.length vc, .slice wa s2.length wc]) (n := 121) Tryd.func7 rfl rfl (by show 2 ≤ 121; omega) ?_
  (repeat' first
    | refine AWP.seq ?_
    | refine AWP.block ?_
    | (refine AWP.skip ?_; try dsimp only [thn, inBlk])
    | (refine AWP.exit ?_; try simp only [thn, inBlk, if_true, reduceIte, Nat.reduceEqDiff])
    | (refine AWP.ret ?_; try dsimp only [thn, inBlk])
    | (refine AWP.condT ?_ ?_; (focus (simp [go_sem]; done)))
    | (refine AWP.condF ?_ ?_; (focus (simp [go_sem]; done)))
    | (apply AWP.rE; (focus (simp [go_sem]; exact ⟨rfl, rfl⟩)); try dsimp only [thn, inBlk])
    | fail)
  refine AWP.callE (by simp [go_sem]; exact ⟨rfl, rfl, rfl, rfl, rfl⟩) (by kernel_rfl) ?_
  refine (speaks_calls k0).mono ?_
  rintro r h1 ⟨rfl, k1⟩
  refine awpL_restE (by simp [go_sem]; exact ⟨rfl, rfl⟩) ?_; try dsimp only [thn, inBlk]
  (repeat' first
    | refine AWP.seq ?_
    | refine AWP.block ?_
    | (refine AWP.skip ?_; try dsimp only [thn, inBlk])
    | (refine AWP.exit ?_; try simp only [thn, inBlk, if_true, reduceIte, Nat.reduceEqDiff])
    | (refine AWP.ret ?_; try dsimp only [thn, inBlk])
    | (refine AWP.condT ?_ ?_; (focus (simp [go_sem]; done)))
    | (refine AWP.condF ?_ ?_; (focus (simp [go_sem]; done)))
    | (apply AWP.rE; (focus (simp [go_sem]; exact ⟨rfl, rfl⟩)); try dsimp only [thn, inBlk])
    | fail)
  refine AWP.callE (by simp [go_sem]; exact ⟨rfl, rfl, rfl, rfl, rfl⟩) (by kernel_rfl) ?_
  refine (great_calls k1 (fun hh kk => hp.of_old hb kk) hn1).mono ?_
  rintro r h2 ⟨b1, rfl, g1, k2⟩
  cases b1
  rotate_left
  · refine awpL_restE (by simp [go_sem]; exact ⟨rfl, rfl⟩) ?_; try dsimp only [thn, inBlk]
    (repeat' first
      | refine AWP.seq ?_
      | refine AWP.block ?_
      | (refine AWP.skip ?_; try dsimp only [thn, inBlk])
      | (refine AWP.exit ?_; try simp only [thn, inBlk, if_true, reduceIte, Nat.reduceEqDiff])
      | (refine AWP.ret ?_; try dsimp only [thn, inBlk])
      | (refine AWP.condT ?_ ?_; (focus (simp [go_sem]; done)))
      | (refine AWP.condF ?_ ?_; (focus (simp [go_sem]; done)))
      | (apply AWP.rE; (focus (simp [go_sem]; exact ⟨rfl, rfl⟩)); try dsimp only [thn, inBlk])
      | fail)
    simp [bodyQ, thn, inBlk, resA, resV, go_sem]
  obtain ⟨l1, o1⟩ := g1 rfl
  refine awpL_toCall (by simp [go_sem]; exact ⟨rfl, rfl, rfl, rfl, rfl⟩) (by kernel_rfl) ?_
  refine (great_calls k2 (fun hh kk => hq.of_old hb kk) hn2).mono ?_
  rintro r h3 ⟨b2, rfl, g2, k3⟩
  cases b2
  rotate_left
  · refine awpL_restE (by simp [go_sem]; exact ⟨rfl, rfl⟩) ?_; try dsimp only [thn, inBlk]
    (repeat' first
      | refine AWP.seq ?_
      | refine AWP.block ?_
      | (refine AWP.skip ?_; try dsimp only [thn, inBlk])
      | (refine AWP.exit ?_; try simp only [thn, inBlk, if_true, reduceIte, Nat.reduceEqDiff])
      | (refine AWP.ret ?_; try dsimp only [thn, inBlk])
      | (refine AWP.condT ?_ ?_; (focus (simp [go_sem]; done)))
      | (refine AWP.condF ?_ ?_; (focus (simp [go_sem]; done)))
      | (apply AWP.rE; (focus (simp [go_sem]; exact ⟨rfl, rfl⟩)); try dsimp only [thn, inBlk])
      | fail)
    simp [bodyQ, thn, inBlk, resA, resV, go_sem]
  obtain ⟨l2, o2⟩ := g2 rfl
  refine awpL_restE (by simp [go_sem]; exact ⟨rfl, rfl⟩) ?_; try dsimp only [thn, inBlk]
  (repeat' first
    | refine AWP.seq ?_
    | refine AWP.block ?_
    | (refine AWP.skip ?_; try dsimp only [thn, inBlk])
    | (refine AWP.exit ?_; try simp only [thn, inBlk, if_true, reduceIte, Nat.reduceEqDiff])
    | (refine AWP.ret ?_; try dsimp only [thn, inBlk])
    | (refine AWP.condT ?_ ?_; (focus (simp [go_sem]; done)))
    | (refine AWP.condF ?_ ?_; (focus (simp [go_sem]; done)))
    | (apply AWP.rE; (focus (simp [go_sem]; exact ⟨rfl, rfl⟩)); try dsimp only [thn, inBlk])
    | fail)
  refine AWP.callE (by simp [go_sem]; exact ⟨rfl, rfl, rfl, rfl, rfl⟩) (by kernel_rfl) ?_
  refine (new_calls k3).mono ?_
  rintro r h4 ⟨i, rfl, k4⟩
  refine awpL_restE (by simp [go_sem]; exact ⟨rfl, rfl⟩) ?_; try dsimp only [thn, inBlk]
  (repeat' first
    | refine AWP.seq ?_
    | refine AWP.block ?_
    | (refine AWP.skip ?_; try dsimp only [thn, inBlk])
    | (refine AWP.exit ?_; try simp only [thn, inBlk, if_true, reduceIte, Nat.reduceEqDiff])
    | (refine AWP.ret ?_; try dsimp only [thn, inBlk])
    | (refine AWP.condT ?_ ?_; (focus (simp [go_sem]; done)))
    | (refine AWP.condF ?_ ?_; (focus (simp [go_sem]; done)))
    | (apply AWP.rE; (focus (simp [go_sem]; exact ⟨rfl, rfl⟩)); try dsimp only [thn, inBlk])
    | fail)
  refine AWP.loopR [1, 5, 25, 26, 27] (fun m s h' => ∃ (j : Nat) (T : TL), j ≤ s1.length ∧ m = s1.length - j ∧ s = ⟨121, [(1, .slice wa s2.length wc), (5, ptr i), (25, .slice va s1.length vc), (26, .int .i64 s1.length), (27, .int .i64 j)]⟩ ∧ SI T 61 ∧ Own h.asOld h' [tr i T]) ?_ ?_
  · exact ⟨_, 0, _, by omega, rfl, rfl, SI.top, k4⟩
  rintro m s hB ⟨j, T, hj, rfl, rfl, hT, kB⟩
  by_cases hjm : j < s1.length
  · have hjm' : (j : Int) < s1.length := by omega
    have hoj : s1[j]? = some s1[j] := List.getElem?_eq_getElem hjm
    have haj : ac1[j]? = some (ac1[j]'(by omega)) := List.getElem?_eq_getElem (by omega)
    have hOB := o1 _ (List.getElem_mem hjm)
    obtain ⟨i0, f0, c0, e0, z0, ti0, ro0, p0, q0, m0, t0⟩ := ops_row A1 hb kB hoj haj (kd := .i64)
    have hbd := bd1 j _ _ hoj haj
    generalize s1[j] = o at t0 hOB hbd
    generalize (ac1[j]'(by omega)) = p at t0 hbd
    obtain ⟨⟨ok, om, ow, op, oo⟩, od⟩ := o
    obtain ⟨pa, pc⟩ := p
    have hb1 := hOB.dl
    have hb2 := hOB.pl
    dsimp only [orow] at t0 hb1 hb2 hbd
    have w1 : IntKind.i64.wrap ((j : Int) + 1) = ((j + 1 : Nat) : Int) := by rw [wI64 (by omega) (by omega)]; omega
    have k5 := kB.push (.row [.int .i64 ok, .int .i64 om, tx ow, tx op, tx oo, .slice pa od.length pc] 37 6 true false)
    have c5 := k5.obj
    obtain ⟨M, hM1, hM8, wM⟩ := and56 om
    obtain ⟨K, hK1, wK⟩ := and_mask ok 1 (by omega)
    by_cases hK : K = 0
    · subst hK
      (repeat' first
        | refine AWP.seq ?_
        | refine AWP.block ?_
        | (refine AWP.skip ?_; try dsimp only [thn, inBlk])
        | (refine AWP.exit ?_; try simp only [thn, inBlk, if_true, reduceIte, Nat.reduceEqDiff])
        | (refine AWP.ret ?_; try dsimp only [thn, inBlk])
        | (refine AWP.condT ?_ ?_; (focus (simp [go_sem, hjm', p0, q0, m0, t0, c5, wM, wK]; done)))
        | (refine AWP.condF ?_ ?_; (focus (simp [go_sem, hjm', p0, q0, m0, t0, c5, wM, wK]; done)))
        | (apply AWP.rE; (focus (simp [go_sem, hjm', p0, q0, m0, t0, c5, wM, wK]; exact ⟨rfl, rfl⟩)); try dsimp only [thn, inBlk])
        | fail)
      refine AWP.callE (by simp [go_sem, c5]; exact ⟨rfl, rfl, rfl, rfl, rfl⟩) (by kernel_rfl) ?_
      refine (mkdir_calls (who := rootB) (p := op) (z := (M : Int)) hT.toTK k5.b1 (by omega)).mono ?_
      rintro r h6 ⟨rfl, k6⟩
      refine awpL_restE (by simp [go_sem]; exact ⟨rfl, rfl⟩) ?_; try dsimp only [thn, inBlk]
      (repeat' first
        | refine AWP.seq ?_
        | refine AWP.block ?_
        | (refine AWP.skip ?_; try dsimp only [thn, inBlk])
        | (refine AWP.exit ?_; try simp only [thn, inBlk, if_true, reduceIte, Nat.reduceEqDiff])
        | (refine AWP.ret ?_; try dsimp only [thn, inBlk])
        | (refine AWP.condT ?_ ?_; (focus (simp [go_sem, w1]; done)))
        | (refine AWP.condF ?_ ?_; (focus (simp [go_sem, w1]; done)))
        | (apply AWP.rE; (focus (simp [go_sem, w1]; exact ⟨rfl, rfl⟩)); try dsimp only [thn, inBlk])
        | fail)
      exact ⟨s1.length - (j + 1), by omega, j + 1, _, by omega, rfl, by simp [go_sem], hT.mkd (by omega) hM8, k6.d1⟩
    · (repeat' first
        | refine AWP.seq ?_
        | refine AWP.block ?_
        | (refine AWP.skip ?_; try dsimp only [thn, inBlk])
        | (refine AWP.exit ?_; try simp only [thn, inBlk, if_true, reduceIte, Nat.reduceEqDiff])
        | (refine AWP.ret ?_; try dsimp only [thn, inBlk])
        | (refine AWP.condT ?_ ?_; (focus (simp [go_sem, hjm', p0, q0, m0, t0, c5, wM, wK, hK]; done)))
        | (refine AWP.condF ?_ ?_; (focus (simp [go_sem, hjm', p0, q0, m0, t0, c5, wM, wK, hK]; done)))
        | (apply AWP.rE; (focus (simp [go_sem, hjm', p0, q0, m0, t0, c5, wM, wK, hK]; exact ⟨rfl, rfl⟩)); try dsimp only [thn, inBlk])
        | fail)
      refine AWP.callE (by simp [go_sem, c5]; exact ⟨rfl, rfl, rfl, rfl, rfl⟩) (by kernel_rfl) ?_
      refine (write_calls (who := rootB) (p := op) (d := od) (z := (M : Int)) hT.toTK k5.b1 (fun hh kk => hbd.of_old hb kk) (by omega) (by omega)).mono ?_
      rintro r h6 ⟨rfl, k6⟩
      refine awpL_restE (by simp [go_sem]; exact ⟨rfl, rfl⟩) ?_; try dsimp only [thn, inBlk]
      (repeat' first
        | refine AWP.seq ?_
        | refine AWP.block ?_
        | (refine AWP.skip ?_; try dsimp only [thn, inBlk])
        | (refine AWP.exit ?_; try simp only [thn, inBlk, if_true, reduceIte, Nat.reduceEqDiff])
        | (refine AWP.ret ?_; try dsimp only [thn, inBlk])
        | (refine AWP.condT ?_ ?_; (focus (simp [go_sem, w1]; done)))
        | (refine AWP.condF ?_ ?_; (focus (simp [go_sem, w1]; done)))
        | (apply AWP.rE; (focus (simp [go_sem, w1]; exact ⟨rfl, rfl⟩)); try dsimp only [thn, inBlk])
        | fail)
      exact ⟨s1.length - (j + 1), by omega, j + 1, _, by omega, rfl, by simp [go_sem], hT.wr (by omega) hM8, k6.d1⟩
  · have hjm' : ¬ (j : Int) < s1.length := by omega
    clear hj hjm
    (repeat' first
      | refine AWP.seq ?_
      | refine AWP.block ?_
      | (refine AWP.skip ?_; try dsimp only [thn, inBlk])
      | (refine AWP.exit ?_; try simp only [thn, inBlk, if_true, reduceIte, Nat.reduceEqDiff])
      | (refine AWP.ret ?_; try dsimp only [thn, inBlk])
      | (refine AWP.condT ?_ ?_; (focus (simp [go_sem, hjm']; done)))
      | (refine AWP.condF ?_ ?_; (focus (simp [go_sem, hjm']; done)))
      | (apply AWP.rE; (focus (simp [go_sem, hjm']; exact ⟨rfl, rfl⟩)); try dsimp only [thn, inBlk])
      | fail)
    refine AWP.callE (by simp [go_sem]; exact ⟨rfl, rfl, rfl, rfl, rfl⟩) (by kernel_rfl) ?_
    refine (chmod_calls (who := rootB) (p := [47]) (z := 57) hT.toTK kB (by decide)).mono ?_
    rintro r h5 ⟨rfl, k5⟩
    obtain ⟨hc0, hT1⟩ := hT.chm
    generalize (chR T rootB [47] 57).2 = T1 at k5 hT1
    rw [hc0]
    refine awpL_restE (by simp [go_sem]; exact ⟨rfl, rfl⟩) ?_; try dsimp only [thn, inBlk]
    (repeat' first
      | refine AWP.seq ?_
      | refine AWP.block ?_
      | (refine AWP.skip ?_; try dsimp only [thn, inBlk])
      | (refine AWP.exit ?_; try simp only [thn, inBlk, if_true, reduceIte, Nat.reduceEqDiff])
      | (refine AWP.ret ?_; try dsimp only [thn, inBlk])
      | (refine AWP.condT ?_ ?_; (focus (simp [go_sem]; done)))
      | (refine AWP.condF ?_ ?_; (focus (simp [go_sem]; done)))
      | (apply AWP.rE; (focus (simp [go_sem]; exact ⟨rfl, rfl⟩)); try dsimp only [thn, inBlk])
      | fail)
    refine AWP.callE (by simp [go_sem]; exact ⟨rfl, rfl, rfl, rfl, rfl⟩) (by kernel_rfl) ?_
    refine (nodes_calls hT1.toTK k5).mono ?_
    rintro r h6 ⟨a6, c6, rfl, k6⟩
    refine awpL_restE (by simp [go_sem]; exact ⟨rfl, rfl⟩) ?_; try dsimp only [thn, inBlk]
    (repeat' first
      | refine AWP.seq ?_
      | refine AWP.block ?_
      | (refine AWP.skip ?_; try dsimp only [thn, inBlk])
      | (refine AWP.exit ?_; try simp only [thn, inBlk, if_true, reduceIte, Nat.reduceEqDiff])
      | (refine AWP.ret ?_; try dsimp only [thn, inBlk])
      | (refine AWP.condT ?_ ?_; (focus (simp [go_sem]; done)))
      | (refine AWP.condF ?_ ?_; (focus (simp [go_sem]; done)))
      | (apply AWP.rE; (focus (simp [go_sem]; exact ⟨rfl, rfl⟩)); try dsimp only [thn, inBlk])
      | fail)
    refine AWP.loopR [5, 9, 55, 56, 57] (fun m s h' => ∃ (j : Nat), j ≤ s2.length ∧ m = s2.length - j ∧ s = ⟨121, [(5, ptr i), (9, .slice a6 (nodesL T1).length c6), (55, .slice wa s2.length wc), (56, .int .i64 s2.length), (57, .int .i64 j)]⟩ ∧ Own h.asOld h' [nds (.slice a6 (nodesL T1).length c6) (nodesL T1), tr i T1]) ?_ ?_
    · exact ⟨_, 0, by omega, rfl, rfl, k6⟩
    rintro m s hC ⟨x, hx, rfl, rfl, kC⟩
    by_cases hxm : x < s2.length
    · have hxm' : (x : Int) < s2.length := by omega
      have hoj : s2[x]? = some s2[x] := List.getElem?_eq_getElem hxm
      have haj : ac2[x]? = some (ac2[x]'(by omega)) := List.getElem?_eq_getElem (by omega)
      have hOB := o2 _ (List.getElem_mem hxm)
      obtain ⟨i0, f0, c0, e0, z0, ti0, ro0, p0, q0, m0, t0⟩ := ops_row A2 hb kC hoj haj (kd := .i64)
      have hbd := bd2 x _ _ hoj haj
      generalize s2[x] = o at t0 hOB hbd
      generalize (ac2[x]'(by omega)) = p at t0 hbd
      obtain ⟨⟨ok, om, ow, op, oo⟩, od⟩ := o
      obtain ⟨pa, pc⟩ := p
      have hb1 := hOB.dl
      have hb2 := hOB.pl
      dsimp only [orow] at t0 hb1 hb2 hbd
      have w1 : IntKind.i64.wrap ((x : Int) + 1) = ((x + 1 : Nat) : Int) := by rw [wI64 (by omega) (by omega)]; omega
      have k7 := kC.push (.row [.int .i64 ok, .int .i64 om, tx ow, tx op, tx oo, .slice pa od.length pc] 37 6 true false)
      have c7 := k7.obj
      obtain ⟨K, hK1, wK⟩ := and_mask ok 7 (by omega)
      match K, hK1 with
      | 0, _ =>
        (repeat' first
          | refine AWP.seq ?_
          | refine AWP.block ?_
          | (refine AWP.skip ?_; try dsimp only [thn, inBlk])
          | (refine AWP.exit ?_; try simp only [thn, inBlk, if_true, reduceIte, Nat.reduceEqDiff])
          | (refine AWP.ret ?_; try dsimp only [thn, inBlk])
          | (refine AWP.condT ?_ ?_; (focus (simp [go_sem, hxm', p0, q0, m0, t0, c7, wK]; done)))
          | (refine AWP.condF ?_ ?_; (focus (simp [go_sem, hxm', p0, q0, m0, t0, c7, wK]; done)))
          | (apply AWP.rE; (focus (simp [go_sem, hxm', p0, q0, m0, t0, c7, wK]; exact ⟨rfl, rfl⟩)); try dsimp only [thn, inBlk])
          | fail)
        refine AWP.callE (by simp [go_sem, c7]; exact ⟨rfl, rfl, rfl, rfl, rfl⟩) (by kernel_rfl) ?_
        refine (remove_calls (who := eveB) (p := op) hT1.toTK k7.b2 (by omega)).mono ?_
        rintro r h8 ⟨rfl, k8⟩
        rw [eve_rm hT1] at k8
        refine awpL_restE (by simp [go_sem]; exact ⟨rfl, rfl⟩) ?_; try dsimp only [thn, inBlk]
        (repeat' first
          | refine AWP.seq ?_
          | refine AWP.block ?_
          | (refine AWP.skip ?_; try dsimp only [thn, inBlk])
          | (refine AWP.exit ?_; try simp only [thn, inBlk, if_true, reduceIte, Nat.reduceEqDiff])
          | (refine AWP.ret ?_; try dsimp only [thn, inBlk])
          | (refine AWP.condT ?_ ?_; (focus (simp [go_sem, w1]; done)))
          | (refine AWP.condF ?_ ?_; (focus (simp [go_sem, w1]; done)))
          | (apply AWP.rE; (focus (simp [go_sem, w1]; exact ⟨rfl, rfl⟩)); try dsimp only [thn, inBlk])
          | fail)
        exact ⟨s2.length - (x + 1), by omega, x + 1, by omega, rfl, by simp [go_sem], k8.d1.b1⟩
      | 1, _ =>
        (repeat' first
          | refine AWP.seq ?_
          | refine AWP.block ?_
          | (refine AWP.skip ?_; try dsimp only [thn, inBlk])
          | (refine AWP.exit ?_; try simp only [thn, inBlk, if_true, reduceIte, Nat.reduceEqDiff])
          | (refine AWP.ret ?_; try dsimp only [thn, inBlk])
          | (refine AWP.condT ?_ ?_; (focus (simp [go_sem, hxm', p0, q0, m0, t0, c7, wK]; done)))
          | (refine AWP.condF ?_ ?_; (focus (simp [go_sem, hxm', p0, q0, m0, t0, c7, wK]; done)))
          | (apply AWP.rE; (focus (simp [go_sem, hxm', p0, q0, m0, t0, c7, wK]; exact ⟨rfl, rfl⟩)); try dsimp only [thn, inBlk])
          | fail)
        refine AWP.callE (by simp [go_sem, c7]; exact ⟨rfl, rfl, rfl, rfl, rfl⟩) (by kernel_rfl) ?_
        refine (chmod_calls (who := eveB) (p := op) (z := om) hT1.toTK k7.b2 (by omega)).mono ?_
        rintro r h8 ⟨rfl, k8⟩
        rw [eve_ch hT1] at k8
        refine awpL_restE (by simp [go_sem]; exact ⟨rfl, rfl⟩) ?_; try dsimp only [thn, inBlk]
        (repeat' first
          | refine AWP.seq ?_
          | refine AWP.block ?_
          | (refine AWP.skip ?_; try dsimp only [thn, inBlk])
          | (refine AWP.exit ?_; try simp only [thn, inBlk, if_true, reduceIte, Nat.reduceEqDiff])
          | (refine AWP.ret ?_; try dsimp only [thn, inBlk])
          | (refine AWP.condT ?_ ?_; (focus (simp [go_sem, w1]; done)))
          | (refine AWP.condF ?_ ?_; (focus (simp [go_sem, w1]; done)))
          | (apply AWP.rE; (focus (simp [go_sem, w1]; exact ⟨rfl, rfl⟩)); try dsimp only [thn, inBlk])
          | fail)
        exact ⟨s2.length - (x + 1), by omega, x + 1, by omega, rfl, by simp [go_sem], k8.d1.b1⟩
      | 2, _ =>
        (repeat' first
          | refine AWP.seq ?_
          | refine AWP.block ?_
          | (refine AWP.skip ?_; try dsimp only [thn, inBlk])
          | (refine AWP.exit ?_; try simp only [thn, inBlk, if_true, reduceIte, Nat.reduceEqDiff])
          | (refine AWP.ret ?_; try dsimp only [thn, inBlk])
          | (refine AWP.condT ?_ ?_; (focus (simp [go_sem, hxm', p0, q0, m0, t0, c7, wK]; done)))
          | (refine AWP.condF ?_ ?_; (focus (simp [go_sem, hxm', p0, q0, m0, t0, c7, wK]; done)))
          | (apply AWP.rE; (focus (simp [go_sem, hxm', p0, q0, m0, t0, c7, wK]; exact ⟨rfl, rfl⟩)); try dsimp only [thn, inBlk])
          | fail)
        refine AWP.callE (by simp [go_sem, c7]; exact ⟨rfl, rfl, rfl, rfl, rfl⟩) (by kernel_rfl) ?_
        refine (give_calls (who := eveB) (p := op) (o := eveB) hT1.toTK k7.b2 (by omega)).mono ?_
        rintro r h8 ⟨rfl, k8⟩
        rw [eve_gv] at k8
        refine awpL_restE (by simp [go_sem]; exact ⟨rfl, rfl⟩) ?_; try dsimp only [thn, inBlk]
        (repeat' first
          | refine AWP.seq ?_
          | refine AWP.block ?_
          | (refine AWP.skip ?_; try dsimp only [thn, inBlk])
          | (refine AWP.exit ?_; try simp only [thn, inBlk, if_true, reduceIte, Nat.reduceEqDiff])
          | (refine AWP.ret ?_; try dsimp only [thn, inBlk])
          | (refine AWP.condT ?_ ?_; (focus (simp [go_sem, w1]; done)))
          | (refine AWP.condF ?_ ?_; (focus (simp [go_sem, w1]; done)))
          | (apply AWP.rE; (focus (simp [go_sem, w1]; exact ⟨rfl, rfl⟩)); try dsimp only [thn, inBlk])
          | fail)
        exact ⟨s2.length - (x + 1), by omega, x + 1, by omega, rfl, by simp [go_sem], k8.d1.b1⟩
      | 3, _ =>
        (repeat' first
          | refine AWP.seq ?_
          | refine AWP.block ?_
          | (refine AWP.skip ?_; try dsimp only [thn, inBlk])
          | (refine AWP.exit ?_; try simp only [thn, inBlk, if_true, reduceIte, Nat.reduceEqDiff])
          | (refine AWP.ret ?_; try dsimp only [thn, inBlk])
          | (refine AWP.condT ?_ ?_; (focus (simp [go_sem, hxm', p0, q0, m0, t0, c7, wK]; done)))
          | (refine AWP.condF ?_ ?_; (focus (simp [go_sem, hxm', p0, q0, m0, t0, c7, wK]; done)))
          | (apply AWP.rE; (focus (simp [go_sem, hxm', p0, q0, m0, t0, c7, wK]; exact ⟨rfl, rfl⟩)); try dsimp only [thn, inBlk])
          | fail)
        refine AWP.callE (by simp [go_sem, c7]; exact ⟨rfl, rfl, rfl, rfl, rfl⟩) (by kernel_rfl) ?_
        refine (mkdir_calls (who := eveB) (p := op) (z := om) hT1.toTK k7.b2 (by omega)).mono ?_
        rintro r h8 ⟨rfl, k8⟩
        rw [eve_mk hT1] at k8
        refine awpL_restE (by simp [go_sem]; exact ⟨rfl, rfl⟩) ?_; try dsimp only [thn, inBlk]
        (repeat' first
          | refine AWP.seq ?_
          | refine AWP.block ?_
          | (refine AWP.skip ?_; try dsimp only [thn, inBlk])
          | (refine AWP.exit ?_; try simp only [thn, inBlk, if_true, reduceIte, Nat.reduceEqDiff])
          | (refine AWP.ret ?_; try dsimp only [thn, inBlk])
          | (refine AWP.condT ?_ ?_; (focus (simp [go_sem, w1]; done)))
          | (refine AWP.condF ?_ ?_; (focus (simp [go_sem, w1]; done)))
          | (apply AWP.rE; (focus (simp [go_sem, w1]; exact ⟨rfl, rfl⟩)); try dsimp only [thn, inBlk])
          | fail)
        exact ⟨s2.length - (x + 1), by omega, x + 1, by omega, rfl, by simp [go_sem], k8.d1.b1⟩
      | 4, _ =>
        (repeat' first
          | refine AWP.seq ?_
          | refine AWP.block ?_
          | (refine AWP.skip ?_; try dsimp only [thn, inBlk])
          | (refine AWP.exit ?_; try simp only [thn, inBlk, if_true, reduceIte, Nat.reduceEqDiff])
          | (refine AWP.ret ?_; try dsimp only [thn, inBlk])
          | (refine AWP.condT ?_ ?_; (focus (simp [go_sem, hxm', p0, q0, m0, t0, c7, wK]; done)))
          | (refine AWP.condF ?_ ?_; (focus (simp [go_sem, hxm', p0, q0, m0, t0, c7, wK]; done)))
          | (apply AWP.rE; (focus (simp [go_sem, hxm', p0, q0, m0, t0, c7, wK]; exact ⟨rfl, rfl⟩)); try dsimp only [thn, inBlk])
          | fail)
        refine AWP.callE (by simp [go_sem, c7]; exact ⟨rfl, rfl, rfl, rfl, rfl⟩) (by kernel_rfl) ?_
        refine (read_calls (who := eveB) (p := op) hT1.toTK k7.b2 (by omega)).mono ?_
        rintro r h8 ⟨a8, c8, rfl, k8⟩
        obtain ⟨e1, e2⟩ := eve_rd hT1 (p := op)
        rw [e2] at k8 ⊢
        refine awpL_restE (by simp [go_sem]; exact ⟨rfl, rfl⟩) ?_; try dsimp only [thn, inBlk]
        have e1 : ((rdR T1 eveB op).fst == 0) = false := by simpa using e1
        (repeat' first
          | refine AWP.seq ?_
          | refine AWP.block ?_
          | (refine AWP.skip ?_; try dsimp only [thn, inBlk])
          | (refine AWP.exit ?_; try simp only [thn, inBlk, if_true, reduceIte, Nat.reduceEqDiff])
          | (refine AWP.ret ?_; try dsimp only [thn, inBlk])
          | (refine AWP.condT ?_ ?_; (focus (simp [go_sem, w1, e1]; done)))
          | (refine AWP.condF ?_ ?_; (focus (simp [go_sem, w1, e1]; done)))
          | (apply AWP.rE; (focus (simp [go_sem, w1, e1]; exact ⟨rfl, rfl⟩)); try dsimp only [thn, inBlk])
          | fail)
        exact ⟨s2.length - (x + 1), by omega, x + 1, by omega, rfl, by simp [go_sem], k8.tail.d1.b1⟩
      | K + 5, hK1 =>
        have g3 : ¬ (K : Int) + 5 = 0 := by omega
        have g4 : ¬ (K : Int) + 5 = 1 := by omega
        have g5 : ¬ (K : Int) + 5 = 2 := by omega
        have g6 : ¬ (K : Int) + 5 = 3 := by omega
        have g7 : ¬ (K : Int) + 5 = 4 := by omega
        (repeat' first
          | refine AWP.seq ?_
          | refine AWP.block ?_
          | (refine AWP.skip ?_; try dsimp only [thn, inBlk])
          | (refine AWP.exit ?_; try simp only [thn, inBlk, if_true, reduceIte, Nat.reduceEqDiff])
          | (refine AWP.ret ?_; try dsimp only [thn, inBlk])
          | (refine AWP.condT ?_ ?_; (focus (simp [go_sem, hxm', p0, q0, m0, t0, c7, wK, g3, g4, g5, g6, g7]; done)))
          | (refine AWP.condF ?_ ?_; (focus (simp [go_sem, hxm', p0, q0, m0, t0, c7, wK, g3, g4, g5, g6, g7]; done)))
          | (apply AWP.rE; (focus (simp [go_sem, hxm', p0, q0, m0, t0, c7, wK, g3, g4, g5, g6, g7]; exact ⟨rfl, rfl⟩)); try dsimp only [thn, inBlk])
          | fail)
        refine AWP.callE (by simp [go_sem, c7]; exact ⟨rfl, rfl, rfl, rfl, rfl⟩) (by kernel_rfl) ?_
        refine (write_calls (who := eveB) (p := op) (d := od) (z := om) hT1.toTK k7.b2 (fun hh kk => hbd.of_old hb kk) (by omega) (by omega)).mono ?_
        rintro r h8 ⟨rfl, k8⟩
        rw [eve_wr hT1] at k8
        refine awpL_restE (by simp [go_sem]; exact ⟨rfl, rfl⟩) ?_; try dsimp only [thn, inBlk]
        (repeat' first
          | refine AWP.seq ?_
          | refine AWP.block ?_
          | (refine AWP.skip ?_; try dsimp only [thn, inBlk])
          | (refine AWP.exit ?_; try simp only [thn, inBlk, if_true, reduceIte, Nat.reduceEqDiff])
          | (refine AWP.ret ?_; try dsimp only [thn, inBlk])
          | (refine AWP.condT ?_ ?_; (focus (simp [go_sem, w1]; done)))
          | (refine AWP.condF ?_ ?_; (focus (simp [go_sem, w1]; done)))
          | (apply AWP.rE; (focus (simp [go_sem, w1]; exact ⟨rfl, rfl⟩)); try dsimp only [thn, inBlk])
          | fail)
        exact ⟨s2.length - (x + 1), by omega, x + 1, by omega, rfl, by simp [go_sem], k8.d1.b1⟩
    · have hxm' : ¬ (x : Int) < s2.length := by omega
      (repeat' first
        | refine AWP.seq ?_
        | refine AWP.block ?_
        | (refine AWP.skip ?_; try dsimp only [thn, inBlk])
        | (refine AWP.exit ?_; try simp only [thn, inBlk, if_true, reduceIte, Nat.reduceEqDiff])
        | (refine AWP.ret ?_; try dsimp only [thn, inBlk])
        | (refine AWP.condT ?_ ?_; (focus (simp [go_sem, hxm']; done)))
        | (refine AWP.condF ?_ ?_; (focus (simp [go_sem, hxm']; done)))
        | (apply AWP.rE; (focus (simp [go_sem, hxm']; exact ⟨rfl, rfl⟩)); try dsimp only [thn, inBlk])
        | fail)
      refine AWP.callE (by simp [go_sem]; exact ⟨rfl, rfl, rfl, rfl, rfl⟩) (by kernel_rfl) ?_
      refine (nodes_calls hT1.toTK kC.b1).mono ?_
      rintro r h7 ⟨a7, c7, rfl, k7⟩
      have hl : (nodesL T1).length ≤ 1000000000 := by
        have e : (nodesL T1).length = T1.length := by
          rw [nodesL, List.length_map]
          show (List.mergeSort _ _).length = _
          rw [List.length_mergeSort, List.length_map]
        have := hT1.mx; omega
      have b7 := nds_br k7
      have b8 := nds_br k7.b2
      have hs := same_calls b7 b8 (by rw [List.length_map]; exact hl)
      refine awpL_toCall (by simp [go_sem]; exact ⟨rfl, rfl, rfl, rfl, rfl⟩) (by kernel_rfl) ?_
      refine hs.mono ?_
      rintro r h8 ⟨rfl, rfl⟩
      refine awpL_restE (by simp [go_sem]; exact ⟨rfl, rfl⟩) ?_; try dsimp only [thn, inBlk]
      (repeat' first
        | refine AWP.seq ?_
        | refine AWP.block ?_
        | (refine AWP.skip ?_; try dsimp only [thn, inBlk])
        | (refine AWP.exit ?_; try simp only [thn, inBlk, if_true, reduceIte, Nat.reduceEqDiff])
        | (refine AWP.ret ?_; try dsimp only [thn, inBlk])
        | (refine AWP.condT ?_ ?_; (focus (simp [go_sem]; done)))
        | (refine AWP.condF ?_ ?_; (focus (simp [go_sem]; done)))
        | (apply AWP.rE; (focus (simp [go_sem]; exact ⟨rfl, rfl⟩)); try dsimp only [thn, inBlk])
        | fail)
      simp [bodyQ, thn, inBlk, resA, resV, go_sem]
end L19
