import Derived.Test.YteodcjamnfoidaaDoorL19zk
open Go Ab Go.Proofs
namespace L19
set_option autoImplicit false
set_option linter.unusedSimpArgs false
set_option linter.unusedVariables false
section
variable {O : Old} {h : AHeap} {R : List Chunk} {i : Nat} {xs : TL}
theorem node_setD {p : List UInt8} {nd nd' : Nd} {q : Nat} {v : Value} {zs : List NZ} {a a' : Option Addr} {cap cap' : Nat} (hz : zs.map (·.1) = xs) (hzq : zs[q]? = some ((p, nd), (a, cap))) (hf : xs.findIdx? (fun x => x.1 == p) = some q)
    (hd : nd'.dir = nd.dir) (ho : nd'.own = nd.own) (hm : nd'.mode = nd.mode) (k : Own O h (sb ((p, nd'), (a', cap')) :: nzs v zs :: (zs.map sb ++ (cell i (rrow v) :: R)))) :
    ∃ b o c ti, indexAddrP Tryd.prog 40 v (.int .i64 q) = some (.pointer (some ⟨b, o, none⟩)) ∧ h.obj b = some (.row c 43 5 ti false) ∧ o + 5 ≤ c.length ∧ Own O (h.set b (.row (c.set (o + 4) (.slice a' nd'.data.length cap')) 43 5 ti false)) (rts i (setN xs p nd') :: R) := by
  have hql : q < zs.length := (List.getElem?_eq_some_iff.1 hzq).1
  have hw : nz ((p, nd'), (a', cap')) = (nz ((p, nd), (a, cap))).set 4 (.slice a' nd'.data.length cap') := by
    show [tx p, .bool nd'.dir, tx nd'.own, .int .i64 nd'.mode, .slice a' nd'.data.length cap'] = [tx p, .bool nd.dir, tx nd.own, .int .i64 nd.mode, .slice a nd.data.length cap].set 4 _
    rw [hd, ho, hm]; rfl
  obtain ⟨b0, o0, c0, e0, z0, t0, r0, p0, q0, m0, g0, _⟩ := nz_at k.b1 hzq (kd := .i64)
  obtain ⟨b, o, c, ti, p1, q1, m1, k1⟩ := Own.os_setR (P := Tryd.prog) (t := 40) Tryd.underlying40 tsz43 k.b1 (j := q) (rs := nz ((p, nd'), (a', cap'))) hql rfl (kd := .i64)
  cases p0.symm.trans p1
  cases q0.symm.trans q1
  refine ⟨b0, o0, c0, t0, p1, q1, m1, ?_⟩
  rw [flat_setL nz_all (by rw [List.length_map]; exact hql) rfl, ← List.map_set, hw, setL_one (rs := nz ((p, nd), (a, cap))) m1 g0 (by show 4 < 5; omega)] at k1
  have hl : zs.length = (zs.set q ((p, nd'), (a', cap'))).length := by rw [List.length_set]
  have k2 := Own.setIn (A := [_]) (X := sb ((p, nd'), (a', cap'))) (Y := sb ((p, nd), (a, cap))) (j := q) (L := zs.map sb) (by rw [List.getElem?_map, hzq]; rfl) k1.b1
  rw [← List.map_set, hl] at k2
  have k3 := nds_zs.2 ⟨zs.set q ((p, nd'), (a', cap')), set_xs hz rfl hf, k2⟩
  exact rts_iff.2 ⟨v, k3.b1⟩
def wrS (xs : TL) (who p d : List UInt8) (z : Int) : TL := match get xs p with
  | none => if (wrR xs who p d z).1 = 0 then insX (p, ⟨false, who, z.toNat, d⟩) xs else xs
  | some _ => (wrR xs who p d z).2
theorem wrS_same {who p d : List UInt8} {z y : Int} (h : wrR xs who p d z = (y, xs)) (hy : y ≠ 0) : wrS xs who p d z = xs := by
  unfold wrS
  rw [h]
  cases get xs p with
  | none => dsimp only; rw [if_neg hy]
  | some _ => rfl
set_option maxHeartbeats 8000000 in
theorem rwrite_calls {who p d : List UInt8} {w : Value} {z : Int} (hX : RX xs) (hT : ∃ nd, get xs [47] = some nd) (k : Own O h (rts i xs :: R)) (hx : ∀ h, Own O h R → Bytes h w d) (hp : p.length ≤ 100000) (hd : d.length ≤ 1000000) :
    ACalls Tryd.prog 27 #[ptr i, tx who, tx p, w, .int .i64 z] h fun r h' => r = .int .i64 (wrR xs who p d z).1 ∧ Own O h' (rts i (wrS xs who p d z) :: R) := by
  obtain ⟨va, vc, rfl⟩ := (hx h k.tail).val
  refine ACalls.of_awp (args := [ptr i, tx who, tx p, .slice va d.length vc, .int .i64 z]) (n := 71) Tryd.func27 rfl rfl (by show 5 ≤ 71; omega) ?_
  obtain ⟨v, k0⟩ := rts_iff.1 k
  have hln := hX.ln
  (repeat' first
    | refine AWP.seq ?_
    | refine AWP.block ?_
    | (refine AWP.skip ?_; try dsimp only [thn, inBlk])
    | (refine AWP.exit ?_; try simp only [thn, inBlk, if_true, reduceIte, Nat.reduceEqDiff])
    | (refine AWP.ret ?_; try dsimp only [thn, inBlk])
    | (refine AWP.condT ?_ ?_; (focus (simp [go_sem]; done)))
    | (refine AWP.condF ?_ ?_; (focus (simp [go_sem]; done)))
    | (apply AWP.rE; (focus (simp [go_sem]; exact ⟨rfl, rfl⟩)); try dsimp only [thn, inBlk])
    | fail)
  refine AWP.callE (by simp [go_sem]; exact ⟨rfl, rfl, rfl, rfl, rfl⟩) (by kernel_rfl) ?_
  refine (rcome_calls (who := who) (p := p) hX k0 hp).mono ?_
  rintro r h1 ⟨rfl, k1⟩
  have kX := rts_iff.2 ⟨v, k1⟩
  by_cases hc : comeE xs who p = 0
  rotate_left
  · have hc' : (comeE xs who p != 0) = true := by simpa using hc
    have e : wrR xs who p d z = (comeE xs who p, xs) := by simp [wrR, hc]
    rw [wrS_same e hc, e]
    generalize comeE xs who p = y at *
    refine awpL_restE (by simp [go_sem]; exact ⟨rfl, rfl⟩) ?_; try dsimp only [thn, inBlk]
    (repeat' first
      | refine AWP.seq ?_
      | refine AWP.block ?_
      | (refine AWP.skip ?_; try dsimp only [thn, inBlk])
      | (refine AWP.exit ?_; try simp only [thn, inBlk, if_true, reduceIte, Nat.reduceEqDiff])
      | (refine AWP.ret ?_; try dsimp only [thn, inBlk])
      | (refine AWP.condT ?_ ?_; (focus (simp [go_sem, hc']; done)))
      | (refine AWP.condF ?_ ?_; (focus (simp [go_sem, hc']; done)))
      | (apply AWP.rE; (focus (simp [go_sem, hc']; exact ⟨rfl, rfl⟩)); try dsimp only [thn, inBlk])
      | fail)
    simp [bodyQ, thn, inBlk, resA, resV, go_sem]
    exact kX
  obtain ⟨pn, hpar⟩ : ∃ nd, get xs (par p) = some nd := by
    by_cases hp1 : p = [47]
    · rw [hp1]; exact hT
    · obtain ⟨nd, q, _⟩ := come_parent hc hp1
      exact ⟨nd, q⟩
  rw [hc]
  by_cases hz : 0 ≤ z
  rotate_left
  · have hz' : z < 0 := by omega
    have e : wrR xs who p d z = (1, xs) := by
      unfold wrR; rw [if_pos hc, if_pos (by simp [rightB]; omega)]
    rw [wrS_same e (by decide), e]
    refine awpL_restE (by simp [go_sem]; exact ⟨rfl, rfl⟩) ?_; try dsimp only [thn, inBlk]
    (repeat' first
      | refine AWP.seq ?_
      | refine AWP.block ?_
      | (refine AWP.skip ?_; try dsimp only [thn, inBlk])
      | (refine AWP.exit ?_; try simp only [thn, inBlk, if_true, reduceIte, Nat.reduceEqDiff])
      | (refine AWP.ret ?_; try dsimp only [thn, inBlk])
      | (refine AWP.condT ?_ ?_; (focus (simp [go_sem, hz']; done)))
      | (refine AWP.condF ?_ ?_; (focus (simp [go_sem, hz']; done)))
      | (apply AWP.rE; (focus (simp [go_sem, hz']; exact ⟨rfl, rfl⟩)); try dsimp only [thn, inBlk])
      | fail)
    simp [bodyQ, thn, inBlk, resA, resV, go_sem]
    exact kX
  have hz' : ¬ z < 0 := by omega
  by_cases hz6 : z ≤ 63
  rotate_left
  · have hz6' : 63 < z := by omega
    have e : wrR xs who p d z = (1, xs) := by
      unfold wrR; rw [if_pos hc, if_pos (by simp [rightB]; omega)]
    rw [wrS_same e (by decide), e]
    refine awpL_restE (by simp [go_sem]; exact ⟨rfl, rfl⟩) ?_; try dsimp only [thn, inBlk]
    (repeat' first
      | refine AWP.seq ?_
      | refine AWP.block ?_
      | (refine AWP.skip ?_; try dsimp only [thn, inBlk])
      | (refine AWP.exit ?_; try simp only [thn, inBlk, if_true, reduceIte, Nat.reduceEqDiff])
      | (refine AWP.ret ?_; try dsimp only [thn, inBlk])
      | (refine AWP.condT ?_ ?_; (focus (simp [go_sem, hz', hz6']; done)))
      | (refine AWP.condF ?_ ?_; (focus (simp [go_sem, hz', hz6']; done)))
      | (apply AWP.rE; (focus (simp [go_sem, hz', hz6']; exact ⟨rfl, rfl⟩)); try dsimp only [thn, inBlk])
      | fail)
    simp [bodyQ, thn, inBlk, resA, resV, go_sem]
    exact kX
  have hz6' : ¬ 63 < z := by omega
  have hr : ¬ rightB z = false := by simp [rightB]; omega
  by_cases hl : 1000 < d.length
  · have hl' : (1000 : Int) < d.length := by omega
    have e : wrR xs who p d z = (23, xs) := by
      unfold wrR; rw [if_pos hc, if_neg hr, if_pos hl]
    rw [wrS_same e (by decide), e]
    refine awpL_restE (by simp [go_sem]; exact ⟨rfl, rfl⟩) ?_; try dsimp only [thn, inBlk]
    (repeat' first
      | refine AWP.seq ?_
      | refine AWP.block ?_
      | (refine AWP.skip ?_; try dsimp only [thn, inBlk])
      | (refine AWP.exit ?_; try simp only [thn, inBlk, if_true, reduceIte, Nat.reduceEqDiff])
      | (refine AWP.ret ?_; try dsimp only [thn, inBlk])
      | (refine AWP.condT ?_ ?_; (focus (simp [go_sem, hz', hz6', hl']; done)))
      | (refine AWP.condF ?_ ?_; (focus (simp [go_sem, hz', hz6', hl']; done)))
      | (apply AWP.rE; (focus (simp [go_sem, hz', hz6', hl']; exact ⟨rfl, rfl⟩)); try dsimp only [thn, inBlk])
      | fail)
    simp [bodyQ, thn, inBlk, resA, resV, go_sem]
    exact kX
  have hl' : ¬ (1000 : Int) < d.length := by omega
  refine awpL_restE (by simp [go_sem]; exact ⟨rfl, rfl⟩) ?_; try dsimp only [thn, inBlk]
  (repeat' first
    | refine AWP.seq ?_
    | refine AWP.block ?_
    | (refine AWP.skip ?_; try dsimp only [thn, inBlk])
    | (refine AWP.exit ?_; try simp only [thn, inBlk, if_true, reduceIte, Nat.reduceEqDiff])
    | (refine AWP.ret ?_; try dsimp only [thn, inBlk])
    | (refine AWP.condT ?_ ?_; (focus (simp [go_sem, hz', hz6', hl']; done)))
    | (refine AWP.condF ?_ ?_; (focus (simp [go_sem, hz', hz6', hl']; done)))
    | (apply AWP.rE; (focus (simp [go_sem, hz', hz6', hl']; exact ⟨rfl, rfl⟩)); try dsimp only [thn, inBlk])
    | fail)
  refine AWP.callE (by simp [go_sem]; exact ⟨rfl, rfl, rfl, rfl, rfl⟩) (by kernel_rfl) ?_
  refine (rat_calls (p := p) k1 (by omega)).mono ?_
  rintro r h5 ⟨rfl, rfl⟩
  obtain ⟨Z, rfl⟩ : ∃ Z : Nat, z = Z := ⟨z.toNat, by omega⟩
  obtain ⟨a8, n8, h8, e8, k8⟩ := k1.copy (P := Tryd.prog) (t := 22) (xt := 22) (xv := .slice va d.length vc) (xs := d) (i := h5.next) Tryd.underlying22 tsz5 tby5 tz5 nI22 (fun hh kk => hx hh kk.tail.tail) (by omega) rfl
  have ci := k1.obj
  cases hg : get xs p with
  | none =>
    have e : wrR xs who p d Z = (putE xs p ⟨false, who, Z, d⟩, putT xs p ⟨false, who, Z, d⟩) := by
      unfold wrR; rw [if_pos hc, if_neg hr, if_neg hl, hg]; rfl
    have e2 : wrS xs who p d Z = if putE xs p ⟨false, who, Z, d⟩ = 0 then insX (p, ⟨false, who, Z, d⟩) xs else xs := by
      unfold wrS; rw [hg, e]; rfl
    rw [ix_none hg, e, e2]
    refine awpL_restE (by simp [go_sem]; exact ⟨rfl, rfl⟩) ?_; try dsimp only [thn, inBlk]
    (repeat' first
      | refine AWP.seq ?_
      | refine AWP.block ?_
      | (refine AWP.skip ?_; try dsimp only [thn, inBlk])
      | (refine AWP.exit ?_; try simp only [thn, inBlk, if_true, reduceIte, Nat.reduceEqDiff])
      | (refine AWP.ret ?_; try dsimp only [thn, inBlk])
      | (refine AWP.condT ?_ ?_; (focus (simp [go_sem]; done)))
      | (refine AWP.condF ?_ ?_; (focus (simp [go_sem]; done)))
      | (apply AWP.rE; (focus (simp [go_sem]; exact ⟨rfl, rfl⟩)); try dsimp only [thn, inBlk])
      | fail)
    refine AWP.callE (by simp [go_sem, e8]; exact ⟨rfl, rfl, rfl, rfl, rfl⟩) (by kernel_rfl) ?_
    refine (rput_calls (e := ((p, ⟨false, who, Z, d⟩), (a8, n8))) hX k8.p2 hp hpar).mono ?_
    rintro r h7 ⟨rfl, k7⟩
    refine awpL_restE (by simp [go_sem]; exact ⟨rfl, rfl⟩) ?_; try dsimp only [thn, inBlk]
    (repeat' first
      | refine AWP.seq ?_
      | refine AWP.block ?_
      | (refine AWP.skip ?_; try dsimp only [thn, inBlk])
      | (refine AWP.exit ?_; try simp only [thn, inBlk, if_true, reduceIte, Nat.reduceEqDiff])
      | (refine AWP.ret ?_; try dsimp only [thn, inBlk])
      | (refine AWP.condT ?_ ?_; (focus (simp [go_sem]; done)))
      | (refine AWP.condF ?_ ?_; (focus (simp [go_sem]; done)))
      | (apply AWP.rE; (focus (simp [go_sem]; exact ⟨rfl, rfl⟩)); try dsimp only [thn, inBlk])
      | fail)
    simp [bodyQ, thn, inBlk, resA, resV, go_sem]
    exact k7
  | some nd =>
    obtain ⟨q, hq, hqf, hqv⟩ := node_ix hg
    have e : wrR xs who p d Z = if nd.dir = true then (113, xs) else if may who nd 2 = false then (114, xs) else (0, setN xs p { nd with data := d }) := by
      unfold wrR; rw [if_pos hc, if_neg hr, if_neg hl, hg]
    have e2 : wrS xs who p d Z = (wrR xs who p d Z).2 := by unfold wrS; rw [hg]
    rw [hqv, e2, e]
    have hq0 : ¬ (q : Int) < 0 := by omega
    obtain ⟨bi, bo, cc, e', sz, ti, ro, a, cap, q1, q2, q3, q4, q5⟩ := nds_row k1.b1 hq (kd := .i64)
    have q6 : cc[bo + 1]? = some (.bool nd.dir) := by
      have := congrArg (·[1]?) q4
      simp only [List.getElem?_take, List.getElem?_drop] at this
      simpa [agN] using this
    cases hdir : nd.dir
    rotate_left
    · rw [hdir] at q6
      rw [if_pos rfl]
      refine awpL_restE (by simp [go_sem]; exact ⟨rfl, rfl⟩) ?_; try dsimp only [thn, inBlk]
      (repeat' first
        | refine AWP.seq ?_
        | refine AWP.block ?_
        | (refine AWP.skip ?_; try dsimp only [thn, inBlk])
        | (refine AWP.exit ?_; try simp only [thn, inBlk, if_true, reduceIte, Nat.reduceEqDiff])
        | (refine AWP.ret ?_; try dsimp only [thn, inBlk])
        | (refine AWP.condT ?_ ?_; (focus (simp [go_sem, hq0, ci, q1, q2, q6]; done)))
        | (refine AWP.condF ?_ ?_; (focus (simp [go_sem, hq0, ci, q1, q2, q6]; done)))
        | (apply AWP.rE; (focus (simp [go_sem, hq0, ci, q1, q2, q6]; exact ⟨rfl, rfl⟩)); try dsimp only [thn, inBlk])
        | fail)
      simp [bodyQ, thn, inBlk, resA, resV, go_sem]
      exact kX
    rw [hdir] at q6
    rw [if_neg (by decide)]
    refine awpL_restE (by simp [go_sem]; exact ⟨rfl, rfl⟩) ?_; try dsimp only [thn, inBlk]
    (repeat' first
      | refine AWP.seq ?_
      | refine AWP.block ?_
      | (refine AWP.skip ?_; try dsimp only [thn, inBlk])
      | (refine AWP.exit ?_; try simp only [thn, inBlk, if_true, reduceIte, Nat.reduceEqDiff])
      | (refine AWP.ret ?_; try dsimp only [thn, inBlk])
      | (refine AWP.condT ?_ ?_; (focus (simp [go_sem, hq0, ci, q1, q2, q6]; done)))
      | (refine AWP.condF ?_ ?_; (focus (simp [go_sem, hq0, ci, q1, q2, q6]; done)))
      | (apply AWP.rE; (focus (simp [go_sem, hq0, ci, q1, q2, q6]; exact ⟨rfl, rfl⟩)); try dsimp only [thn, inBlk])
      | fail)
    refine AWP.callE (by simp [go_sem, ci, q1, q2, q3, q4]; exact ⟨rfl, rfl, rfl, rfl, rfl⟩) (by kernel_rfl) ?_
    refine (rmay_calls (who := who) (x := (p, nd)) (a := a) (cap := cap) (bit := 2) k1 (hX.mode hq) (by simp)).mono ?_
    rintro r h7 ⟨rfl, k7⟩
    dsimp only
    cases hmay : may who nd 2
    · rw [if_pos rfl]
      refine awpL_restE (by simp [go_sem]; exact ⟨rfl, rfl⟩) ?_; try dsimp only [thn, inBlk]
      (repeat' first
        | refine AWP.seq ?_
        | refine AWP.block ?_
        | (refine AWP.skip ?_; try dsimp only [thn, inBlk])
        | (refine AWP.exit ?_; try simp only [thn, inBlk, if_true, reduceIte, Nat.reduceEqDiff])
        | (refine AWP.ret ?_; try dsimp only [thn, inBlk])
        | (refine AWP.condT ?_ ?_; (focus (simp [go_sem]; done)))
        | (refine AWP.condF ?_ ?_; (focus (simp [go_sem]; done)))
        | (apply AWP.rE; (focus (simp [go_sem]; exact ⟨rfl, rfl⟩)); try dsimp only [thn, inBlk])
        | fail)
      simp [bodyQ, thn, inBlk, resA, resV, go_sem]
      exact rts_iff.2 ⟨v, k7⟩
    rw [if_neg (by decide)]
    obtain ⟨zs, a3, cap3, hzs, hzq, k9⟩ := node_open2 hq k7
    obtain ⟨a9, n9, h9, e9, k10⟩ := k9.copy (P := Tryd.prog) (t := 22) (xt := 22) (xv := .slice va d.length vc) (xs := d) (i := h7.next) Tryd.underlying22 tsz5 tby5 tz5 nI22 (fun hh kk => hx hh kk.tail.rest.tail) (by omega) rfl
    have ci7 := k7.obj
    obtain ⟨b, o, c, ti, p1, r1, m1, k11⟩ := node_setD (nd' := { nd with data := d }) (a' := a9) (cap' := n9) hzs hzq hqf rfl rfl rfl k10
    have m1' : o + 4 + 1 ≤ c.length := by omega
    cases q1.symm.trans p1
    have ci9 := fun oo => (k7.push oo).b1.obj
    refine awpL_restE (by simp [go_sem]; exact ⟨rfl, rfl⟩) ?_; try dsimp only [thn, inBlk]
    (repeat' first
      | refine AWP.seq ?_
      | refine AWP.block ?_
      | (refine AWP.skip ?_; try dsimp only [thn, inBlk])
      | (refine AWP.exit ?_; try simp only [thn, inBlk, if_true, reduceIte, Nat.reduceEqDiff])
      | (refine AWP.ret ?_; try dsimp only [thn, inBlk])
      | (refine AWP.condT ?_ ?_; (focus (simp [go_sem]; done)))
      | (refine AWP.condF ?_ ?_; (focus (simp [go_sem]; done)))
      | (apply AWP.rE; (focus (simp [go_sem]; exact ⟨rfl, rfl⟩)); try dsimp only [thn, inBlk])
      | fail)
    refine AWP.draw hmix [.n 0 [0], .n 1 [61], .n 2 [62], .n 3 [63], .n 4 [12], .n 5 [], .n 6 [3], .w 7 [66, 67] [3], .n 8 [64, 65], .n 9 [69], .w 10 [70, 68] []] (by kernel_rfl) ?_
    have ci10 : h9.obj i = some (rrow v) := (Own.outR (A := [_, _]) k10).obj
    refine awpD_writeR 7 (by rfl) (by rfl) (by simp [go_sem, ci7, ci9, q1, e9, ci10]; exact ⟨rfl, rfl, rfl⟩) (by rfl) (by rfl) (by simp [go_sem]) (by simp [go_sem, ci7, ci9, q1, e9, ci10]; exact ⟨rfl, rfl⟩) (by simp [still, go_sem, ci7, ci9, q1, e9, ci10]) ?_
    refine awpD_writeR 2 (by rfl) (by rfl) (by simp [go_sem, q1, r1, m1']; exact ⟨rfl, rfl, rfl⟩) (by rfl) (by rfl) (by simp [go_sem]) (by simp [go_sem, q1, r1, m1']; exact ⟨rfl, rfl⟩) (by simp [still, go_sem, q1, r1, m1']) ?_
    refine awpD_restR (by rfl) (by simp [go_sem]; exact ⟨rfl, rfl, rfl⟩) ?_; try dsimp only [thn, inBlk]
    (repeat' first
      | refine AWP.seq ?_
      | refine AWP.block ?_
      | (refine AWP.skip ?_; try dsimp only [thn, inBlk])
      | (refine AWP.exit ?_; try simp only [thn, inBlk, if_true, reduceIte, Nat.reduceEqDiff])
      | (refine AWP.ret ?_; try dsimp only [thn, inBlk])
      | (refine AWP.condT ?_ ?_; (focus (simp [go_sem]; done)))
      | (refine AWP.condF ?_ ?_; (focus (simp [go_sem]; done)))
      | (apply AWP.rE; (focus (simp [go_sem]; exact ⟨rfl, rfl⟩)); try dsimp only [thn, inBlk])
      | fail)
    simp [bodyQ, thn, inBlk, resA, resV, go_sem]
    rw [hdir] at k11
    exact k11
end
end L19
