import Derived.Test.YteodcjamnfoidaaDoorL19zj
open Go Ab Go.Proofs
namespace L19
set_option autoImplicit false
set_option linter.unusedSimpArgs false
set_option linter.unusedVariables false
section
variable {O : Old} {h : AHeap} {R : List Chunk} {i : Nat} {xs : TL}
/-- A node that is opened; what is made of it, closed. -/
theorem node_open2 {p : List UInt8} {nd : Nd} {q : Nat} {v : Value} (hq : xs[q]? = some (p, nd)) (k : Own O h (cell i (rrow v) :: nds v xs :: R)) :
    ∃ (zs : List NZ) (a : Option Addr) (cap : Nat), zs.map (·.1) = xs ∧ zs[q]? = some ((p, nd), (a, cap)) ∧ Own O h (nzs v zs :: (zs.map sb ++ (cell i (rrow v) :: R))) := by
  obtain ⟨zs, hz, k1⟩ := nds_zs.1 k.b1
  rw [← hz, List.getElem?_map, Option.map_eq_some_iff] at hq
  obtain ⟨z, h1, h2⟩ := hq
  obtain ⟨zx, a, cap⟩ := z
  exact ⟨zs, a, cap, hz, by rw [h1, ← h2], k1⟩
theorem node_set1 {p : List UInt8} {nd nd' : Nd} {q f : Nat} {v w : Value} {zs : List NZ} {a : Option Addr} {cap : Nat} (hz : zs.map (·.1) = xs) (hzq : zs[q]? = some ((p, nd), (a, cap))) (hf : xs.findIdx? (fun x => x.1 == p) = some q)
    (hd : nd'.data = nd.data) (hfl : f < 5) (hw : nz ((p, nd'), (a, cap)) = (nz ((p, nd), (a, cap))).set f w) (k : Own O h (nzs v zs :: (zs.map sb ++ (cell i (rrow v) :: R)))) :
    ∃ b o c ti, indexAddrP Tryd.prog 40 v (.int .i64 q) = some (.pointer (some ⟨b, o, none⟩)) ∧ h.obj b = some (.row c 43 5 ti false) ∧ o + 5 ≤ c.length ∧ Own O (h.set b (.row (c.set (o + f) w) 43 5 ti false)) (rts i (setN xs p nd') :: R) := by
  have hql : q < zs.length := (List.getElem?_eq_some_iff.1 hzq).1
  obtain ⟨b0, o0, c0, e0, z0, t0, r0, p0, q0, m0, g0, _⟩ := nz_at k hzq (kd := .i64)
  obtain ⟨b, o, c, ti, p1, q1, m1, k1⟩ := Own.os_setR (P := Tryd.prog) (t := 40) Tryd.underlying40 tsz43 k (j := q) (rs := nz ((p, nd'), (a, cap))) hql rfl (kd := .i64)
  cases p0.symm.trans p1
  cases q0.symm.trans q1
  refine ⟨b0, o0, c0, t0, p1, q1, m1, ?_⟩
  have he : sb ((p, nd'), (a, cap)) = sb ((p, nd), (a, cap)) := by
    show ob 5 (.slice a nd'.data.length cap) nd'.data = ob 5 (.slice a nd.data.length cap) nd.data
    rw [hd]
  rw [flat_setL nz_all (by rw [List.length_map]; exact hql) rfl, ← List.map_set, hw, setL_one (rs := nz ((p, nd), (a, cap))) m1 g0 hfl] at k1
  have hl : zs.length = (zs.set q ((p, nd'), (a, cap))).length := by rw [List.length_set]
  rw [hl, ← set_sb hzq he] at k1
  have k2 := nds_zs.2 ⟨zs.set q ((p, nd'), (a, cap)), set_xs hz rfl hf, k1⟩
  exact rts_iff.2 ⟨v, k2.b1⟩
theorem RX.mode {p : List UInt8} {nd : Nd} {q : Nat} (hX : RX xs) (hq : xs[q]? = some (p, nd)) : nd.mode ≤ 63 := hX.md _ (List.mem_of_getElem? hq)
set_option maxHeartbeats 8000000 in
theorem rchmod_calls {who p : List UInt8} {z : Int} (hX : RX xs) (k : Own O h (rts i xs :: R)) (hp : p.length ≤ 100000) :
    ACalls Tryd.prog 24 #[ptr i, tx who, tx p, .int .i64 z] h fun r h' => r = .int .i64 (chR xs who p z).1 ∧ Own O h' (rts i (chR xs who p z).2 :: R) := by
  refine ACalls.of_awp (args := [ptr i, tx who, tx p, .int .i64 z]) (n := 51) Tryd.func24 rfl rfl (by show 4 ≤ 51; omega) ?_
  obtain ⟨v, k0⟩ := rts_iff.1 k
  have hln := hX.ln
  (repeat' first
    | refine AWP.seq ?_
    | refine AWP.block ?_
    | (refine AWP.skip ?_; try dsimp only [thn, inBlk])
    | (refine AWP.exit ?_; try simp only [thn, inBlk, if_true, reduceIte, Nat.reduceEqDiff])
    | (refine AWP.ret ?_; try dsimp only [thn, inBlk])
    | (refine AWP.condT ?_ ?_; (focus (simp [go_sem]; done)))
    | (refine AWP.condF ?_ ?_; (focus (simp [go_sem]; done)))
    | (apply AWP.rE; (focus (simp [go_sem]; exact ⟨rfl, rfl⟩)); try dsimp only [thn, inBlk])
    | fail)
  refine AWP.callE (by simp [go_sem]; exact ⟨rfl, rfl, rfl, rfl, rfl⟩) (by kernel_rfl) ?_
  refine (rcome_calls (who := who) (p := p) hX k0 hp).mono ?_
  rintro r h1 ⟨rfl, k1⟩
  have kX := rts_iff.2 ⟨v, k1⟩
  by_cases hc : comeE xs who p = 0
  rotate_left
  · have hc' : (comeE xs who p != 0) = true := by simpa using hc
    have e : chR xs who p z = (comeE xs who p, xs) := by simp [chR, hc]
    rw [e]
    generalize comeE xs who p = y at *
    refine awpL_restE (by simp [go_sem]; exact ⟨rfl, rfl⟩) ?_; try dsimp only [thn, inBlk]
    (repeat' first
      | refine AWP.seq ?_
      | refine AWP.block ?_
      | (refine AWP.skip ?_; try dsimp only [thn, inBlk])
      | (refine AWP.exit ?_; try simp only [thn, inBlk, if_true, reduceIte, Nat.reduceEqDiff])
      | (refine AWP.ret ?_; try dsimp only [thn, inBlk])
      | (refine AWP.condT ?_ ?_; (focus (simp [go_sem, hc']; done)))
      | (refine AWP.condF ?_ ?_; (focus (simp [go_sem, hc']; done)))
      | (apply AWP.rE; (focus (simp [go_sem, hc']; exact ⟨rfl, rfl⟩)); try dsimp only [thn, inBlk])
      | fail)
    simp [bodyQ, thn, inBlk, resA, resV, go_sem]
    exact kX
  rw [hc]
  by_cases hz : 0 ≤ z
  rotate_left
  · have hz' : z < 0 := by omega
    have e : chR xs who p z = (1, xs) := by
      unfold chR; rw [if_pos hc, if_pos (by simp [rightB]; omega)]
    rw [e]
    refine awpL_restE (by simp [go_sem]; exact ⟨rfl, rfl⟩) ?_; try dsimp only [thn, inBlk]
    (repeat' first
      | refine AWP.seq ?_
      | refine AWP.block ?_
      | (refine AWP.skip ?_; try dsimp only [thn, inBlk])
      | (refine AWP.exit ?_; try simp only [thn, inBlk, if_true, reduceIte, Nat.reduceEqDiff])
      | (refine AWP.ret ?_; try dsimp only [thn, inBlk])
      | (refine AWP.condT ?_ ?_; (focus (simp [go_sem, hz']; done)))
      | (refine AWP.condF ?_ ?_; (focus (simp [go_sem, hz']; done)))
      | (apply AWP.rE; (focus (simp [go_sem, hz']; exact ⟨rfl, rfl⟩)); try dsimp only [thn, inBlk])
      | fail)
    simp [bodyQ, thn, inBlk, resA, resV, go_sem]
    exact kX
  have hz' : ¬ z < 0 := by omega
  by_cases hz6 : z ≤ 63
  rotate_left
  · have hz6' : 63 < z := by omega
    have e : chR xs who p z = (1, xs) := by
      unfold chR; rw [if_pos hc, if_pos (by simp [rightB]; omega)]
    rw [e]
    refine awpL_restE (by simp [go_sem]; exact ⟨rfl, rfl⟩) ?_; try dsimp only [thn, inBlk]
    (repeat' first
      | refine AWP.seq ?_
      | refine AWP.block ?_
      | (refine AWP.skip ?_; try dsimp only [thn, inBlk])
      | (refine AWP.exit ?_; try simp only [thn, inBlk, if_true, reduceIte, Nat.reduceEqDiff])
      | (refine AWP.ret ?_; try dsimp only [thn, inBlk])
      | (refine AWP.condT ?_ ?_; (focus (simp [go_sem, hz', hz6']; done)))
      | (refine AWP.condF ?_ ?_; (focus (simp [go_sem, hz', hz6']; done)))
      | (apply AWP.rE; (focus (simp [go_sem, hz', hz6']; exact ⟨rfl, rfl⟩)); try dsimp only [thn, inBlk])
      | fail)
    simp [bodyQ, thn, inBlk, resA, resV, go_sem]
    exact kX
  have hz6' : ¬ 63 < z := by omega
  have hr : ¬ rightB z = false := by simp [rightB]; omega
  refine awpL_restE (by simp [go_sem]; exact ⟨rfl, rfl⟩) ?_; try dsimp only [thn, inBlk]
  (repeat' first
    | refine AWP.seq ?_
    | refine AWP.block ?_
    | (refine AWP.skip ?_; try dsimp only [thn, inBlk])
    | (refine AWP.exit ?_; try simp only [thn, inBlk, if_true, reduceIte, Nat.reduceEqDiff])
    | (refine AWP.ret ?_; try dsimp only [thn, inBlk])
    | (refine AWP.condT ?_ ?_; (focus (simp [go_sem, hz', hz6']; done)))
    | (refine AWP.condF ?_ ?_; (focus (simp [go_sem, hz', hz6']; done)))
    | (apply AWP.rE; (focus (simp [go_sem, hz', hz6']; exact ⟨rfl, rfl⟩)); try dsimp only [thn, inBlk])
    | fail)
  refine AWP.callE (by simp [go_sem]; exact ⟨rfl, rfl, rfl, rfl, rfl⟩) (by kernel_rfl) ?_
  refine (rat_calls (p := p) k1 (by omega)).mono ?_
  rintro r h5 ⟨rfl, rfl⟩
  cases hg : get xs p with
  | none =>
    have e : chR xs who p z = (110, xs) := by
      unfold chR; rw [if_pos hc, if_neg hr, hg]
    rw [ix_none hg, e]
    refine awpL_restE (by simp [go_sem]; exact ⟨rfl, rfl⟩) ?_; try dsimp only [thn, inBlk]
    (repeat' first
      | refine AWP.seq ?_
      | refine AWP.block ?_
      | (refine AWP.skip ?_; try dsimp only [thn, inBlk])
      | (refine AWP.exit ?_; try simp only [thn, inBlk, if_true, reduceIte, Nat.reduceEqDiff])
      | (refine AWP.ret ?_; try dsimp only [thn, inBlk])
      | (refine AWP.condT ?_ ?_; (focus (simp [go_sem]; done)))
      | (refine AWP.condF ?_ ?_; (focus (simp [go_sem]; done)))
      | (apply AWP.rE; (focus (simp [go_sem]; exact ⟨rfl, rfl⟩)); try dsimp only [thn, inBlk])
      | fail)
    simp [bodyQ, thn, inBlk, resA, resV, go_sem]
    exact kX
  | some nd =>
    obtain ⟨q, hq, hqf, hqv⟩ := node_ix hg
    have e : chR xs who p z = if who ≠ rootB ∧ who ≠ nd.own then (114, xs) else (0, setN xs p { nd with mode := z.toNat }) := by
      unfold chR; rw [if_pos hc, if_neg hr, hg]
    rw [hqv, e]
    have hq0 : ¬ (q : Int) < 0 := by omega
    have ci := k1.obj
    obtain ⟨zs, a, cap, hzs, hzq, k6⟩ := node_open2 hq k1
    obtain ⟨b0, o0, c0, e0, z0, t0, r0, p0, q0, m0, g0, f0⟩ := nz_at k6 hzq (kd := .i64)
    have f2 : c0[o0 + 2]? = some (tx nd.own) := f0 2 _ rfl
    obtain ⟨Z, rfl⟩ : ∃ Z : Nat, z = Z := ⟨z.toNat, by omega⟩
    obtain ⟨b, o, c, ti, p1, q1, m1, k7⟩ := node_set1 (nd' := { nd with mode := ((Z : Int)).toNat }) (f := 3) (w := .int .i64 (Z : Int)) hzs hzq hqf rfl (by omega) rfl k6
    cases p0.symm.trans p1
    cases q0.symm.trans q1
    have m1' : o0 + 3 + 1 ≤ c0.length := by omega
    by_cases h1 : who = rootB
    · have h1' : (who == [114, 111, 111, 116]) = true := by simpa [rootB] using h1
      have h1n : (who != [114, 111, 111, 116]) = false := by simpa [rootB] using h1
      rw [if_neg (by simp [h1])]
      refine awpL_restE (by simp [go_sem]; exact ⟨rfl, rfl⟩) ?_; try dsimp only [thn, inBlk]
      (repeat' first
        | refine AWP.seq ?_
        | refine AWP.block ?_
        | (refine AWP.skip ?_; try dsimp only [thn, inBlk])
        | (refine AWP.exit ?_; try simp only [thn, inBlk, if_true, reduceIte, Nat.reduceEqDiff])
        | (refine AWP.ret ?_; try dsimp only [thn, inBlk])
        | (refine AWP.condT ?_ ?_; (focus (simp [go_sem, hq0, h1', h1n, ci, p1, q1, m1']; done)))
        | (refine AWP.condF ?_ ?_; (focus (simp [go_sem, hq0, h1', h1n, ci, p1, q1, m1']; done)))
        | (apply AWP.rE; (focus (simp [go_sem, hq0, h1', h1n, ci, p1, q1, m1']; exact ⟨rfl, rfl⟩)); try dsimp only [thn, inBlk])
        | fail)
      simp [bodyQ, thn, inBlk, resA, resV, go_sem]
      exact k7
    have h1' : (who == [114, 111, 111, 116]) = false := by simpa [rootB] using h1
    have h1n : (who != [114, 111, 111, 116]) = true := by simpa [rootB] using h1
    by_cases h2 : who = nd.own
    · have h2' : (who == nd.own) = true := by simpa using h2
      have h2n : (who != nd.own) = false := by simpa using h2
      rw [if_neg (by simp [h2])]
      refine awpL_restE (by simp [go_sem]; exact ⟨rfl, rfl⟩) ?_; try dsimp only [thn, inBlk]
      (repeat' first
        | refine AWP.seq ?_
        | refine AWP.block ?_
        | (refine AWP.skip ?_; try dsimp only [thn, inBlk])
        | (refine AWP.exit ?_; try simp only [thn, inBlk, if_true, reduceIte, Nat.reduceEqDiff])
        | (refine AWP.ret ?_; try dsimp only [thn, inBlk])
        | (refine AWP.condT ?_ ?_; (focus (simp [go_sem, hq0, h1', h1n, h2', h2n, f2, ci, p1, q1, m1']; done)))
        | (refine AWP.condF ?_ ?_; (focus (simp [go_sem, hq0, h1', h1n, h2', h2n, f2, ci, p1, q1, m1']; done)))
        | (apply AWP.rE; (focus (simp [go_sem, hq0, h1', h1n, h2', h2n, f2, ci, p1, q1, m1']; exact ⟨rfl, rfl⟩)); try dsimp only [thn, inBlk])
        | fail)
      simp [bodyQ, thn, inBlk, resA, resV, go_sem]
      exact k7
    · have h2' : (who == nd.own) = false := by simpa using h2
      have h2n : (who != nd.own) = true := by simpa using h2
      rw [if_pos ⟨h1, h2⟩]
      refine awpL_restE (by simp [go_sem]; exact ⟨rfl, rfl⟩) ?_; try dsimp only [thn, inBlk]
      (repeat' first
        | refine AWP.seq ?_
        | refine AWP.block ?_
        | (refine AWP.skip ?_; try dsimp only [thn, inBlk])
        | (refine AWP.exit ?_; try simp only [thn, inBlk, if_true, reduceIte, Nat.reduceEqDiff])
        | (refine AWP.ret ?_; try dsimp only [thn, inBlk])
        | (refine AWP.condT ?_ ?_; (focus (simp [go_sem, hq0, h1', h1n, h2', h2n, f2, ci, p1, q1]; done)))
        | (refine AWP.condF ?_ ?_; (focus (simp [go_sem, hq0, h1', h1n, h2', h2n, f2, ci, p1, q1]; done)))
        | (apply AWP.rE; (focus (simp [go_sem, hq0, h1', h1n, h2', h2n, f2, ci, p1, q1]; exact ⟨rfl, rfl⟩)); try dsimp only [thn, inBlk])
        | fail)
      simp [bodyQ, thn, inBlk, resA, resV, go_sem]
      exact kX
set_option maxHeartbeats 8000000 in
theorem rgive_calls {who p o : List UInt8} (hX : RX xs) (k : Own O h (rts i xs :: R)) (hp : p.length ≤ 100000) :
    ACalls Tryd.prog 25 #[ptr i, tx who, tx p, tx o] h fun r h' => r = .int .i64 (gvR xs who p o).1 ∧ Own O h' (rts i (gvR xs who p o).2 :: R) := by
  refine ACalls.of_awp (args := [ptr i, tx who, tx p, tx o]) (n := 31) Tryd.func25 rfl rfl (by show 4 ≤ 31; omega) ?_
  obtain ⟨v, k0⟩ := rts_iff.1 k
  have hln := hX.ln
  (repeat' first
    | refine AWP.seq ?_
    | refine AWP.block ?_
    | (refine AWP.skip ?_; try dsimp only [thn, inBlk])
    | (refine AWP.exit ?_; try simp only [thn, inBlk, if_true, reduceIte, Nat.reduceEqDiff])
    | (refine AWP.ret ?_; try dsimp only [thn, inBlk])
    | (refine AWP.condT ?_ ?_; (focus (simp [go_sem]; done)))
    | (refine AWP.condF ?_ ?_; (focus (simp [go_sem]; done)))
    | (apply AWP.rE; (focus (simp [go_sem]; exact ⟨rfl, rfl⟩)); try dsimp only [thn, inBlk])
    | fail)
  refine AWP.callE (by simp [go_sem]; exact ⟨rfl, rfl, rfl, rfl, rfl⟩) (by kernel_rfl) ?_
  refine (rfind_calls (who := who) (p := p) hX k0 hp).mono ?_
  rintro r h1 ⟨rfl, k1⟩
  have kX := rts_iff.2 ⟨v, k1⟩
  by_cases hc : findE xs who p = 0
  rotate_left
  · have hc' : (findE xs who p != 0) = true := by simpa using hc
    have e : gvR xs who p o = (findE xs who p, xs) := by simp [gvR, hc]
    rw [e, if_neg hc]
    generalize findE xs who p = y at *
    refine awpL_restE (by simp [go_sem]; exact ⟨rfl, rfl⟩) ?_; try dsimp only [thn, inBlk]
    (repeat' first
      | refine AWP.seq ?_
      | refine AWP.block ?_
      | (refine AWP.skip ?_; try dsimp only [thn, inBlk])
      | (refine AWP.exit ?_; try simp only [thn, inBlk, if_true, reduceIte, Nat.reduceEqDiff])
      | (refine AWP.ret ?_; try dsimp only [thn, inBlk])
      | (refine AWP.condT ?_ ?_; (focus (simp [go_sem, hc']; done)))
      | (refine AWP.condF ?_ ?_; (focus (simp [go_sem, hc']; done)))
      | (apply AWP.rE; (focus (simp [go_sem, hc']; exact ⟨rfl, rfl⟩)); try dsimp only [thn, inBlk])
      | fail)
    simp [bodyQ, thn, inBlk, resA, resV, go_sem]
    exact kX
  rw [if_pos hc, hc]
  by_cases h1 : who = rootB
  rotate_left
  · have h1' : (who == [114, 111, 111, 116]) = false := by simpa [rootB] using h1
    have h1n : (who != [114, 111, 111, 116]) = true := by simpa [rootB] using h1
    have e : gvR xs who p o = (114, xs) := by unfold gvR; rw [if_pos hc, if_pos h1]
    rw [e]
    refine awpL_restE (by simp [go_sem]; exact ⟨rfl, rfl⟩) ?_; try dsimp only [thn, inBlk]
    (repeat' first
      | refine AWP.seq ?_
      | refine AWP.block ?_
      | (refine AWP.skip ?_; try dsimp only [thn, inBlk])
      | (refine AWP.exit ?_; try simp only [thn, inBlk, if_true, reduceIte, Nat.reduceEqDiff])
      | (refine AWP.ret ?_; try dsimp only [thn, inBlk])
      | (refine AWP.condT ?_ ?_; (focus (simp [go_sem, h1', h1n]; done)))
      | (refine AWP.condF ?_ ?_; (focus (simp [go_sem, h1', h1n]; done)))
      | (apply AWP.rE; (focus (simp [go_sem, h1', h1n]; exact ⟨rfl, rfl⟩)); try dsimp only [thn, inBlk])
      | fail)
    simp [bodyQ, thn, inBlk, resA, resV, go_sem]
    exact kX
  have h1' : (who == [114, 111, 111, 116]) = true := by simpa [rootB] using h1
  have h1n : (who != [114, 111, 111, 116]) = false := by simpa [rootB] using h1
  obtain ⟨nd, hg⟩ : ∃ nd, get xs p = some nd := by
    unfold findE at hc
    split at hc
    · cases hq : get xs p with
      | none => rw [hq] at hc; cases hc
      | some nd => exact ⟨nd, rfl⟩
    · contradiction
  have e : gvR xs who p o = (0, setN xs p { nd with own := o }) := by
    unfold gvR; rw [if_pos hc, if_neg (by simpa using h1), hg]
  obtain ⟨q, hq, hqf, hqv⟩ := node_ix hg
  rw [hqv, e]
  have ci := k1.obj
  obtain ⟨zs, a, cap, hzs, hzq, k6⟩ := node_open2 hq k1
  obtain ⟨b, of, c, ti, p1, q1, m1, k7⟩ := node_set1 (nd' := { nd with own := o }) (f := 2) (w := tx o) hzs hzq hqf rfl (by omega) rfl k6
  have m1' : of + 2 + 1 ≤ c.length := by omega
  refine awpL_restE (by simp [go_sem]; exact ⟨rfl, rfl⟩) ?_; try dsimp only [thn, inBlk]
  (repeat' first
    | refine AWP.seq ?_
    | refine AWP.block ?_
    | (refine AWP.skip ?_; try dsimp only [thn, inBlk])
    | (refine AWP.exit ?_; try simp only [thn, inBlk, if_true, reduceIte, Nat.reduceEqDiff])
    | (refine AWP.ret ?_; try dsimp only [thn, inBlk])
    | (refine AWP.condT ?_ ?_; (focus (simp [go_sem, h1', h1n, ci, p1, q1, m1']; done)))
    | (refine AWP.condF ?_ ?_; (focus (simp [go_sem, h1', h1n, ci, p1, q1, m1']; done)))
    | (apply AWP.rE; (focus (simp [go_sem, h1', h1n, ci, p1, q1, m1']; exact ⟨rfl, rfl⟩)); try dsimp only [thn, inBlk])
    | fail)
  simp [bodyQ, thn, inBlk, resA, resV, go_sem]
  exact k7
end
end L19
