import Derived.Test.YtdbonhhdpaklhaaGreatDoorL23zgx
section
open Go Ab Go.Proofs
namespace L23
set_option autoImplicit false
set_option linter.unusedSimpArgs false
set_option linter.unusedVariables false

theorem setL_one {c rs : List Value} {off f : Nat} {v : Value} (hl : off + rs.length ≤ c.length) (h : (c.drop off).take rs.length = rs) (hf : f < rs.length) : setL c off (rs.set f v) = c.set (off + f) v := by
  rw [setL_eq _ _ _ (by rw [List.length_set]; exact hl)]
  apply List.ext_getElem?
  intro k
  rw [List.length_set, List.getElem?_set]
  have hr : ∀ q, q < rs.length → rs[q]? = c[off + q]? := fun q hq => by
    conv => lhs; rw [← h]
    rw [List.getElem?_take, if_pos hq, List.getElem?_drop]
  by_cases h1 : k < off
  · rw [List.append_assoc, List.getElem?_append_left (by rw [List.length_take]; omega), List.getElem?_take, if_pos h1, if_neg (by omega)]
  · by_cases h2 : k < off + rs.length
    · rw [List.append_assoc, List.getElem?_append_right (by rw [List.length_take]; omega), List.length_take, Nat.min_eq_left (by omega), List.getElem?_append_left (by rw [List.length_set]; omega), List.getElem?_set]
      by_cases h3 : f = k - off
      · rw [if_pos h3, if_pos (by omega), if_pos (by omega), if_pos (by omega)]
      · rw [if_neg h3, if_neg (by omega), hr _ (by omega), show off + (k - off) = k by omega]
    · rw [List.getElem?_append_right (by simp; omega), if_neg (by omega), List.getElem?_drop]
      congr 1
      simp; omega
/-- What is changed of one node. -/
theorem set_sb {zs : List NZ} {q : Nat} {z z' : NZ} (hz : zs[q]? = some z) (he : sb z' = sb z) : (zs.set q z').map sb = zs.map sb := by
  obtain ⟨hq, hz⟩ := List.getElem?_eq_some_iff.1 hz
  rw [List.map_set, he]
  apply List.ext_getElem?
  intro k
  rw [List.getElem?_set]
  split
  · rename_i e; subst e
    rw [if_pos (by simpa using hq), List.getElem?_map, List.getElem?_eq_getElem hq, hz]; rfl
  · rfl
theorem set_xs {zs : List NZ} {q : Nat} {z' : NZ} {xs : TL} {p : List UInt8} {n : Nd} (hz : zs.map (·.1) = xs) (hx : z'.1 = (p, n)) (hf : xs.findIdx? (fun x => x.1 == p) = some q) : (zs.set q z').map (·.1) = setN xs p n := by
  rw [List.map_set, hz, hx]; simp only [setN, hf]
section
variable {O : Old} {h : AHeap} {R : List Chunk} {i : Nat} {xs : TL}
theorem rnew_calls (k : Own O h R) : ACalls Tryz.prog 23 #[] h fun r h' => ∃ i, r = ptr i ∧ Own O h' (rts i [top] :: R) := by
  refine ACalls.of_awp (args := []) (n := 5) Tryz.func23 rfl rfl (by show 0 ≤ 5; omega) ?_
  have k1 : Own O _ (nzs (.slice (some ⟨h.next, 0, none⟩) 1 1) [(top, (none, 0))] :: R) := (k.push (.row [tx [47], .bool true, tx rootB, .int .i64 61, .slice none 0 0] 47 5 true false)).os_mk (Nat.le_refl _) (by simp) (by simp [nz, top])
  have k2 := k1.push (rrow (.slice (some ⟨h.next, 0, none⟩) 1 1))
  (repeat' first
    | refine AWP.seq ?_
    | refine AWP.block ?_
    | (refine AWP.skip ?_; try dsimp only [thn, inBlk])
    | (refine AWP.exit ?_; try simp only [thn, inBlk, if_true, reduceIte, Nat.reduceEqDiff])
    | (refine AWP.ret ?_; try dsimp only [thn, inBlk])
    | (refine AWP.condT ?_ ?_; (focus (simp [go_sem]; done)))
    | (refine AWP.condF ?_ ?_; (focus (simp [go_sem]; done)))
    | (apply AWP.rE; (focus (simp [go_sem]; exact ⟨rfl, rfl⟩)); try dsimp only [thn, inBlk])
    | fail)
  simp [bodyQ, thn, inBlk, resA, resV, go_sem]
  have k3 : Own O _ (nds (.slice (some ⟨h.next, 0, none⟩) 1 1) [top] :: cell (h.next + 1) (rrow (.slice (some ⟨h.next, 0, none⟩) 1 1)) :: R) := nds_zs.2 ⟨[(top, (none, 0))], rfl, (k2.nil 5 1).b2⟩
  exact rts_iff.2 ⟨_, k3.b1⟩
theorem node_ix {p : List UInt8} {nd : Nd} (hg : get xs p = some nd) : ∃ q : Nat, xs[q]? = some (p, nd) ∧ xs.findIdx? (fun x => x.1 == p) = some q ∧ idxV xs p = q := by
  obtain ⟨q, hq, hqf⟩ := findIdx_get hg
  have : idxE xs p = some q := hqf
  exact ⟨q, hq, hqf, by simp only [idxV, this]⟩
theorem ix_none {p : List UInt8} (hg : get xs p = none) : idxV xs p = -1 := by
  have : idxE xs p = none := by
    unfold idxE
    rw [List.findIdx?_eq_none_iff]
    intro x hx; simpa using get_none hg x hx
  simp only [idxV, this]
def mkS (xs : TL) (who p : List UInt8) (z : Int) : TL := if (mkR xs who p z).1 = 0 then insX (p, ⟨true, who, z.toNat, []⟩) xs else xs
set_option maxHeartbeats 8000000 in
theorem rmkdir_calls {who p : List UInt8} {z : Int} (hX : RX xs) (hT : ∃ nd, get xs [47] = some nd) (k : Own O h (rts i xs :: R)) (hp : p.length ≤ 100000) :
    ACalls Tryz.prog 25 #[ptr i, tx who, tx p, .int .i64 z] h fun r h' => r = .int .i64 (mkR xs who p z).1 ∧ Own O h' (rts i (mkS xs who p z) :: R) := by
  refine ACalls.of_awp (args := [ptr i, tx who, tx p, .int .i64 z]) (n := 33) Tryz.func25 rfl rfl (by show 4 ≤ 33; omega) ?_
  obtain ⟨v, k0⟩ := rts_iff.1 k
  have hln := hX.ln
  (repeat' first
    | refine AWP.seq ?_
    | refine AWP.block ?_
    | (refine AWP.skip ?_; try dsimp only [thn, inBlk])
    | (refine AWP.exit ?_; try simp only [thn, inBlk, if_true, reduceIte, Nat.reduceEqDiff])
    | (refine AWP.ret ?_; try dsimp only [thn, inBlk])
    | (refine AWP.condT ?_ ?_; (focus (simp [go_sem]; done)))
    | (refine AWP.condF ?_ ?_; (focus (simp [go_sem]; done)))
    | (apply AWP.rE; (focus (simp [go_sem]; exact ⟨rfl, rfl⟩)); try dsimp only [thn, inBlk])
    | fail)
  refine AWP.callE (by simp [go_sem]; exact ⟨rfl, rfl, rfl, rfl, rfl⟩) (by kernel_rfl) ?_
  refine (rcome_calls (who := who) (p := p) hX k0 hp).mono ?_
  rintro r h1 ⟨rfl, k1⟩
  have kX := rts_iff.2 ⟨v, k1⟩
  by_cases hc : comeE xs who p = 0
  rotate_left
  · have hc' : (comeE xs who p != 0) = true := by simpa using hc
    have e : mkR xs who p z = (comeE xs who p, xs) := by simp [mkR, hc]
    have e2 : mkS xs who p z = xs := by simp [mkS, e, hc]
    rw [e, e2]
    generalize comeE xs who p = y at *
    refine awpL_restE (by simp [go_sem]; exact ⟨rfl, rfl⟩) ?_; try dsimp only [thn, inBlk]
    (repeat' first
      | refine AWP.seq ?_
      | refine AWP.block ?_
      | (refine AWP.skip ?_; try dsimp only [thn, inBlk])
      | (refine AWP.exit ?_; try simp only [thn, inBlk, if_true, reduceIte, Nat.reduceEqDiff])
      | (refine AWP.ret ?_; try dsimp only [thn, inBlk])
      | (refine AWP.condT ?_ ?_; (focus (simp [go_sem, hc']; done)))
      | (refine AWP.condF ?_ ?_; (focus (simp [go_sem, hc']; done)))
      | (apply AWP.rE; (focus (simp [go_sem, hc']; exact ⟨rfl, rfl⟩)); try dsimp only [thn, inBlk])
      | fail)
    simp [bodyQ, thn, inBlk, resA, resV, go_sem]
    exact kX
  obtain ⟨nd, hpar⟩ : ∃ nd, get xs (par p) = some nd := by
    by_cases hp1 : p = [47]
    · rw [hp1]; exact hT
    · obtain ⟨nd, q, _⟩ := come_parent hc hp1
      exact ⟨nd, q⟩
  have e0 : mkR xs who p z = if rightB z = false then (1, xs) else match get xs p with
      | some _ => (111, xs)
      | none => (putE xs p ⟨true, who, z.toNat, []⟩, putT xs p ⟨true, who, z.toNat, []⟩) := by
    simp only [mkR, hc, if_true]; cases get xs p <;> rfl
  rw [hc]
  by_cases hz : 0 ≤ z
  rotate_left
  · have hz' : z < 0 := by omega
    have e : mkR xs who p z = (1, xs) := by rw [e0, if_pos (by simp [rightB]; omega)]
    have e2 : mkS xs who p z = xs := by simp [mkS, e]
    rw [e, e2]
    refine awpL_restE (by simp [go_sem]; exact ⟨rfl, rfl⟩) ?_; try dsimp only [thn, inBlk]
    (repeat' first
      | refine AWP.seq ?_
      | refine AWP.block ?_
      | (refine AWP.skip ?_; try dsimp only [thn, inBlk])
      | (refine AWP.exit ?_; try simp only [thn, inBlk, if_true, reduceIte, Nat.reduceEqDiff])
      | (refine AWP.ret ?_; try dsimp only [thn, inBlk])
      | (refine AWP.condT ?_ ?_; (focus (simp [go_sem, hz']; done)))
      | (refine AWP.condF ?_ ?_; (focus (simp [go_sem, hz']; done)))
      | (apply AWP.rE; (focus (simp [go_sem, hz']; exact ⟨rfl, rfl⟩)); try dsimp only [thn, inBlk])
      | fail)
    simp [bodyQ, thn, inBlk, resA, resV, go_sem]
    exact kX
  have hz' : ¬ z < 0 := by omega
  by_cases hz6 : z ≤ 63
  rotate_left
  · have hz6' : 63 < z := by omega
    have e : mkR xs who p z = (1, xs) := by rw [e0, if_pos (by simp [rightB]; omega)]
    have e2 : mkS xs who p z = xs := by simp [mkS, e]
    rw [e, e2]
    refine awpL_restE (by simp [go_sem]; exact ⟨rfl, rfl⟩) ?_; try dsimp only [thn, inBlk]
    (repeat' first
      | refine AWP.seq ?_
      | refine AWP.block ?_
      | (refine AWP.skip ?_; try dsimp only [thn, inBlk])
      | (refine AWP.exit ?_; try simp only [thn, inBlk, if_true, reduceIte, Nat.reduceEqDiff])
      | (refine AWP.ret ?_; try dsimp only [thn, inBlk])
      | (refine AWP.condT ?_ ?_; (focus (simp [go_sem, hz', hz6']; done)))
      | (refine AWP.condF ?_ ?_; (focus (simp [go_sem, hz', hz6']; done)))
      | (apply AWP.rE; (focus (simp [go_sem, hz', hz6']; exact ⟨rfl, rfl⟩)); try dsimp only [thn, inBlk])
      | fail)
    simp [bodyQ, thn, inBlk, resA, resV, go_sem]
    exact kX
  have hz6' : ¬ 63 < z := by omega
  rw [if_neg (by simp [rightB]; omega)] at e0
  refine awpL_restE (by simp [go_sem]; exact ⟨rfl, rfl⟩) ?_; try dsimp only [thn, inBlk]
  (repeat' first
    | refine AWP.seq ?_
    | refine AWP.block ?_
    | (refine AWP.skip ?_; try dsimp only [thn, inBlk])
    | (refine AWP.exit ?_; try simp only [thn, inBlk, if_true, reduceIte, Nat.reduceEqDiff])
    | (refine AWP.ret ?_; try dsimp only [thn, inBlk])
    | (refine AWP.condT ?_ ?_; (focus (simp [go_sem, hz', hz6']; done)))
    | (refine AWP.condF ?_ ?_; (focus (simp [go_sem, hz', hz6']; done)))
    | (apply AWP.rE; (focus (simp [go_sem, hz', hz6']; exact ⟨rfl, rfl⟩)); try dsimp only [thn, inBlk])
    | fail)
  refine AWP.callE (by simp [go_sem]; exact ⟨rfl, rfl, rfl, rfl, rfl⟩) (by kernel_rfl) ?_
  refine (rat_calls (p := p) k1 (by omega)).mono ?_
  rintro r h5 ⟨rfl, rfl⟩
  cases hg : get xs p with
  | some n1 =>
    obtain ⟨q, hq, _, hqv⟩ := node_ix hg
    rw [hg] at e0
    have e2 : mkS xs who p z = xs := by simp [mkS, e0]
    have hq0 : (0 : Int) ≤ q := by omega
    rw [hqv, e0, e2]
    refine awpL_restE (by simp [go_sem, hq0]; exact ⟨rfl, rfl⟩) ?_; try dsimp only [thn, inBlk]
    (repeat' first
      | refine AWP.seq ?_
      | refine AWP.block ?_
      | (refine AWP.skip ?_; try dsimp only [thn, inBlk])
      | (refine AWP.exit ?_; try simp only [thn, inBlk, if_true, reduceIte, Nat.reduceEqDiff])
      | (refine AWP.ret ?_; try dsimp only [thn, inBlk])
      | (refine AWP.condT ?_ ?_; (focus (simp [go_sem, hq0]; done)))
      | (refine AWP.condF ?_ ?_; (focus (simp [go_sem, hq0]; done)))
      | (apply AWP.rE; (focus (simp [go_sem, hq0]; exact ⟨rfl, rfl⟩)); try dsimp only [thn, inBlk])
      | fail)
    simp [bodyQ, thn, inBlk, resA, resV, go_sem]
    exact kX
  | none =>
    rw [hg] at e0
    dsimp only at e0
    have e2 : mkS xs who p z = if putE xs p ⟨true, who, z.toNat, []⟩ = 0 then insX (p, ⟨true, who, z.toNat, []⟩) xs else xs := by simp only [mkS, e0]
    rw [ix_none hg, e0, e2]
    obtain ⟨Z, rfl⟩ : ∃ Z : Nat, z = Z := ⟨z.toNat, by omega⟩
    refine awpL_restE (by simp [go_sem]; exact ⟨rfl, rfl⟩) ?_; try dsimp only [thn, inBlk]
    (repeat' first
      | refine AWP.seq ?_
      | refine AWP.block ?_
      | (refine AWP.skip ?_; try dsimp only [thn, inBlk])
      | (refine AWP.exit ?_; try simp only [thn, inBlk, if_true, reduceIte, Nat.reduceEqDiff])
      | (refine AWP.ret ?_; try dsimp only [thn, inBlk])
      | (refine AWP.condT ?_ ?_; (focus (simp [go_sem]; done)))
      | (refine AWP.condF ?_ ?_; (focus (simp [go_sem]; done)))
      | (apply AWP.rE; (focus (simp [go_sem]; exact ⟨rfl, rfl⟩)); try dsimp only [thn, inBlk])
      | fail)
    refine AWP.callE (by simp [go_sem]; exact ⟨rfl, rfl, rfl, rfl, rfl⟩) (by kernel_rfl) ?_
    have k2 : Own O h5 (cell i (rrow v) :: nds v xs :: sb ((p, ⟨true, who, Z, []⟩), (none, 0)) :: R) := ((k1.nil 5 1).b1).b2.b1
    refine (rput_calls (e := ((p, ⟨true, who, Z, []⟩), (none, 0))) hX k2 hp hpar).mono ?_
    rintro r h7 ⟨rfl, k7⟩
    refine awpL_restE (by simp [go_sem]; exact ⟨rfl, rfl⟩) ?_; try dsimp only [thn, inBlk]
    (repeat' first
      | refine AWP.seq ?_
      | refine AWP.block ?_
      | (refine AWP.skip ?_; try dsimp only [thn, inBlk])
      | (refine AWP.exit ?_; try simp only [thn, inBlk, if_true, reduceIte, Nat.reduceEqDiff])
      | (refine AWP.ret ?_; try dsimp only [thn, inBlk])
      | (refine AWP.condT ?_ ?_; (focus (simp [go_sem]; done)))
      | (refine AWP.condF ?_ ?_; (focus (simp [go_sem]; done)))
      | (apply AWP.rE; (focus (simp [go_sem]; exact ⟨rfl, rfl⟩)); try dsimp only [thn, inBlk])
      | fail)
    simp [bodyQ, thn, inBlk, resA, resV, go_sem]
    exact k7
end
end L23
end

section
open Go Ab Go.Proofs
namespace L23
set_option autoImplicit false
set_option linter.unusedSimpArgs false
set_option linter.unusedVariables false
section
variable {O : Old} {h : AHeap} {R : List Chunk} {i : Nat} {xs : TL}
/-- A node that is opened; what is made of it, closed. -/
theorem node_open2 {p : List UInt8} {nd : Nd} {q : Nat} {v : Value} (hq : xs[q]? = some (p, nd)) (k : Own O h (cell i (rrow v) :: nds v xs :: R)) :
    ∃ (zs : List NZ) (a : Option Addr) (cap : Nat), zs.map (·.1) = xs ∧ zs[q]? = some ((p, nd), (a, cap)) ∧ Own O h (nzs v zs :: (zs.map sb ++ (cell i (rrow v) :: R))) := by
  obtain ⟨zs, hz, k1⟩ := nds_zs.1 k.b1
  rw [← hz, List.getElem?_map, Option.map_eq_some_iff] at hq
  obtain ⟨z, h1, h2⟩ := hq
  obtain ⟨zx, a, cap⟩ := z
  exact ⟨zs, a, cap, hz, by rw [h1, ← h2], k1⟩
theorem node_set1 {p : List UInt8} {nd nd' : Nd} {q f : Nat} {v w : Value} {zs : List NZ} {a : Option Addr} {cap : Nat} (hz : zs.map (·.1) = xs) (hzq : zs[q]? = some ((p, nd), (a, cap))) (hf : xs.findIdx? (fun x => x.1 == p) = some q)
    (hd : nd'.data = nd.data) (hfl : f < 5) (hw : nz ((p, nd'), (a, cap)) = (nz ((p, nd), (a, cap))).set f w) (k : Own O h (nzs v zs :: (zs.map sb ++ (cell i (rrow v) :: R)))) :
    ∃ b o c ti, indexAddrP Tryz.prog 39 v (.int .i64 q) = some (.pointer (some ⟨b, o, none⟩)) ∧ h.obj b = some (.row c 47 5 ti false) ∧ o + 5 ≤ c.length ∧ Own O (h.set b (.row (c.set (o + f) w) 47 5 ti false)) (rts i (setN xs p nd') :: R) := by
  have hql : q < zs.length := (List.getElem?_eq_some_iff.1 hzq).1
  obtain ⟨b0, o0, c0, e0, z0, t0, r0, p0, q0, m0, g0, _⟩ := nz_at k hzq (kd := .i64)
  obtain ⟨b, o, c, ti, p1, q1, m1, k1⟩ := Own.os_setR (P := Tryz.prog) (t := 39) Tryz.underlying39 tsz47 k (j := q) (rs := nz ((p, nd'), (a, cap))) hql rfl (kd := .i64)
  cases p0.symm.trans p1
  cases q0.symm.trans q1
  refine ⟨b0, o0, c0, t0, p1, q1, m1, ?_⟩
  have he : sb ((p, nd'), (a, cap)) = sb ((p, nd), (a, cap)) := by
    show ob 5 (.slice a nd'.data.length cap) nd'.data = ob 5 (.slice a nd.data.length cap) nd.data
    rw [hd]
  rw [flat_setL nz_all (by rw [List.length_map]; exact hql) rfl, ← List.map_set, hw, setL_one (rs := nz ((p, nd), (a, cap))) m1 g0 hfl] at k1
  have hl : zs.length = (zs.set q ((p, nd'), (a, cap))).length := by rw [List.length_set]
  rw [hl, ← set_sb hzq he] at k1
  have k2 := nds_zs.2 ⟨zs.set q ((p, nd'), (a, cap)), set_xs hz rfl hf, k1⟩
  exact rts_iff.2 ⟨v, k2.b1⟩
theorem RX.mode {p : List UInt8} {nd : Nd} {q : Nat} (hX : RX xs) (hq : xs[q]? = some (p, nd)) : nd.mode ≤ 63 := hX.md _ (List.mem_of_getElem? hq)
end
end L23
end

section
open Go Ab Go.Proofs
namespace L23
set_option autoImplicit false
set_option linter.unusedSimpArgs false
set_option linter.unusedVariables false
section
variable {O : Old} {h : AHeap} {R : List Chunk} {i : Nat} {xs : TL}
theorem node_setD {p : List UInt8} {nd nd' : Nd} {q : Nat} {v : Value} {zs : List NZ} {a a' : Option Addr} {cap cap' : Nat} (hz : zs.map (·.1) = xs) (hzq : zs[q]? = some ((p, nd), (a, cap))) (hf : xs.findIdx? (fun x => x.1 == p) = some q)
    (hd : nd'.dir = nd.dir) (ho : nd'.own = nd.own) (hm : nd'.mode = nd.mode) (k : Own O h (sb ((p, nd'), (a', cap')) :: nzs v zs :: (zs.map sb ++ (cell i (rrow v) :: R)))) :
    ∃ b o c ti, indexAddrP Tryz.prog 39 v (.int .i64 q) = some (.pointer (some ⟨b, o, none⟩)) ∧ h.obj b = some (.row c 47 5 ti false) ∧ o + 5 ≤ c.length ∧ Own O (h.set b (.row (c.set (o + 4) (.slice a' nd'.data.length cap')) 47 5 ti false)) (rts i (setN xs p nd') :: R) := by
  have hql : q < zs.length := (List.getElem?_eq_some_iff.1 hzq).1
  have hw : nz ((p, nd'), (a', cap')) = (nz ((p, nd), (a, cap))).set 4 (.slice a' nd'.data.length cap') := by
    show [tx p, .bool nd'.dir, tx nd'.own, .int .i64 nd'.mode, .slice a' nd'.data.length cap'] = [tx p, .bool nd.dir, tx nd.own, .int .i64 nd.mode, .slice a nd.data.length cap].set 4 _
    rw [hd, ho, hm]; rfl
  obtain ⟨b0, o0, c0, e0, z0, t0, r0, p0, q0, m0, g0, _⟩ := nz_at k.b1 hzq (kd := .i64)
  obtain ⟨b, o, c, ti, p1, q1, m1, k1⟩ := Own.os_setR (P := Tryz.prog) (t := 39) Tryz.underlying39 tsz47 k.b1 (j := q) (rs := nz ((p, nd'), (a', cap'))) hql rfl (kd := .i64)
  cases p0.symm.trans p1
  cases q0.symm.trans q1
  refine ⟨b0, o0, c0, t0, p1, q1, m1, ?_⟩
  rw [flat_setL nz_all (by rw [List.length_map]; exact hql) rfl, ← List.map_set, hw, setL_one (rs := nz ((p, nd), (a, cap))) m1 g0 (by show 4 < 5; omega)] at k1
  have hl : zs.length = (zs.set q ((p, nd'), (a', cap'))).length := by rw [List.length_set]
  have k2 := Own.setIn (A := [_]) (X := sb ((p, nd'), (a', cap'))) (Y := sb ((p, nd), (a, cap))) (j := q) (L := zs.map sb) (by rw [List.getElem?_map, hzq]; rfl) k1.b1
  rw [← List.map_set, hl] at k2
  have k3 := nds_zs.2 ⟨zs.set q ((p, nd'), (a', cap')), set_xs hz rfl hf, k2⟩
  exact rts_iff.2 ⟨v, k3.b1⟩
def wrS (xs : TL) (who p d : List UInt8) (z : Int) : TL := match get xs p with
  | none => if (wrR xs who p d z).1 = 0 then insX (p, ⟨false, who, z.toNat, d⟩) xs else xs
  | some _ => (wrR xs who p d z).2
theorem wrS_same {who p d : List UInt8} {z y : Int} (h : wrR xs who p d z = (y, xs)) (hy : y ≠ 0) : wrS xs who p d z = xs := by
  unfold wrS
  rw [h]
  cases get xs p with
  | none => dsimp only; rw [if_neg hy]
  | some _ => rfl
set_option maxHeartbeats 8000000 in
theorem rwrite_calls {who p d : List UInt8} {w : Value} {z : Int} (hX : RX xs) (hT : ∃ nd, get xs [47] = some nd) (k : Own O h (rts i xs :: R)) (hx : ∀ h, Own O h R → Bytes h w d) (hp : p.length ≤ 100000) (hd : d.length ≤ 1000000) :
    ACalls Tryz.prog 27 #[ptr i, tx who, tx p, w, .int .i64 z] h fun r h' => r = .int .i64 (wrR xs who p d z).1 ∧ Own O h' (rts i (wrS xs who p d z) :: R) := by
  obtain ⟨va, vc, rfl⟩ := (hx h k.tail).val
  refine ACalls.of_awp (args := [ptr i, tx who, tx p, .slice va d.length vc, .int .i64 z]) (n := 71) Tryz.func27 rfl rfl (by show 5 ≤ 71; omega) ?_
  obtain ⟨v, k0⟩ := rts_iff.1 k
  have hln := hX.ln
  (repeat' first
    | refine AWP.seq ?_
    | refine AWP.block ?_
    | (refine AWP.skip ?_; try dsimp only [thn, inBlk])
    | (refine AWP.exit ?_; try simp only [thn, inBlk, if_true, reduceIte, Nat.reduceEqDiff])
    | (refine AWP.ret ?_; try dsimp only [thn, inBlk])
    | (refine AWP.condT ?_ ?_; (focus (simp [go_sem]; done)))
    | (refine AWP.condF ?_ ?_; (focus (simp [go_sem]; done)))
    | (apply AWP.rE; (focus (simp [go_sem]; exact ⟨rfl, rfl⟩)); try dsimp only [thn, inBlk])
    | fail)
  refine AWP.callE (by simp [go_sem]; exact ⟨rfl, rfl, rfl, rfl, rfl⟩) (by kernel_rfl) ?_
  refine (rcome_calls (who := who) (p := p) hX k0 hp).mono ?_
  rintro r h1 ⟨rfl, k1⟩
  have kX := rts_iff.2 ⟨v, k1⟩
  by_cases hc : comeE xs who p = 0
  rotate_left
  · have hc' : (comeE xs who p != 0) = true := by simpa using hc
    have e : wrR xs who p d z = (comeE xs who p, xs) := by simp [wrR, hc]
    rw [wrS_same e hc, e]
    generalize comeE xs who p = y at *
    refine awpL_restE (by simp [go_sem]; exact ⟨rfl, rfl⟩) ?_; try dsimp only [thn, inBlk]
    (repeat' first
      | refine AWP.seq ?_
      | refine AWP.block ?_
      | (refine AWP.skip ?_; try dsimp only [thn, inBlk])
      | (refine AWP.exit ?_; try simp only [thn, inBlk, if_true, reduceIte, Nat.reduceEqDiff])
      | (refine AWP.ret ?_; try dsimp only [thn, inBlk])
      | (refine AWP.condT ?_ ?_; (focus (simp [go_sem, hc']; done)))
      | (refine AWP.condF ?_ ?_; (focus (simp [go_sem, hc']; done)))
      | (apply AWP.rE; (focus (simp [go_sem, hc']; exact ⟨rfl, rfl⟩)); try dsimp only [thn, inBlk])
      | fail)
    simp [bodyQ, thn, inBlk, resA, resV, go_sem]
    exact kX
  obtain ⟨pn, hpar⟩ : ∃ nd, get xs (par p) = some nd := by
    by_cases hp1 : p = [47]
    · rw [hp1]; exact hT
    · obtain ⟨nd, q, _⟩ := come_parent hc hp1
      exact ⟨nd, q⟩
  rw [hc]
  by_cases hz : 0 ≤ z
  rotate_left
  · have hz' : z < 0 := by omega
    have e : wrR xs who p d z = (1, xs) := by
      unfold wrR; rw [if_pos hc, if_pos (by simp [rightB]; omega)]
    rw [wrS_same e (by decide), e]
    refine awpL_restE (by simp [go_sem]; exact ⟨rfl, rfl⟩) ?_; try dsimp only [thn, inBlk]
    (repeat' first
      | refine AWP.seq ?_
      | refine AWP.block ?_
      | (refine AWP.skip ?_; try dsimp only [thn, inBlk])
      | (refine AWP.exit ?_; try simp only [thn, inBlk, if_true, reduceIte, Nat.reduceEqDiff])
      | (refine AWP.ret ?_; try dsimp only [thn, inBlk])
      | (refine AWP.condT ?_ ?_; (focus (simp [go_sem, hz']; done)))
      | (refine AWP.condF ?_ ?_; (focus (simp [go_sem, hz']; done)))
      | (apply AWP.rE; (focus (simp [go_sem, hz']; exact ⟨rfl, rfl⟩)); try dsimp only [thn, inBlk])
      | fail)
    simp [bodyQ, thn, inBlk, resA, resV, go_sem]
    exact kX
  have hz' : ¬ z < 0 := by omega
  by_cases hz6 : z ≤ 63
  rotate_left
  · have hz6' : 63 < z := by omega
    have e : wrR xs who p d z = (1, xs) := by
      unfold wrR; rw [if_pos hc, if_pos (by simp [rightB]; omega)]
    rw [wrS_same e (by decide), e]
    refine awpL_restE (by simp [go_sem]; exact ⟨rfl, rfl⟩) ?_; try dsimp only [thn, inBlk]
    (repeat' first
      | refine AWP.seq ?_
      | refine AWP.block ?_
      | (refine AWP.skip ?_; try dsimp only [thn, inBlk])
      | (refine AWP.exit ?_; try simp only [thn, inBlk, if_true, reduceIte, Nat.reduceEqDiff])
      | (refine AWP.ret ?_; try dsimp only [thn, inBlk])
      | (refine AWP.condT ?_ ?_; (focus (simp [go_sem, hz', hz6']; done)))
      | (refine AWP.condF ?_ ?_; (focus (simp [go_sem, hz', hz6']; done)))
      | (apply AWP.rE; (focus (simp [go_sem, hz', hz6']; exact ⟨rfl, rfl⟩)); try dsimp only [thn, inBlk])
      | fail)
    simp [bodyQ, thn, inBlk, resA, resV, go_sem]
    exact kX
  have hz6' : ¬ 63 < z := by omega
  have hr : ¬ rightB z = false := by simp [rightB]; omega
  by_cases hl : 1000 < d.length
  · have hl' : (1000 : Int) < d.length := by omega
    have e : wrR xs who p d z = (23, xs) := by
      unfold wrR; rw [if_pos hc, if_neg hr, if_pos hl]
    rw [wrS_same e (by decide), e]
    refine awpL_restE (by simp [go_sem]; exact ⟨rfl, rfl⟩) ?_; try dsimp only [thn, inBlk]
    (repeat' first
      | refine AWP.seq ?_
      | refine AWP.block ?_
      | (refine AWP.skip ?_; try dsimp only [thn, inBlk])
      | (refine AWP.exit ?_; try simp only [thn, inBlk, if_true, reduceIte, Nat.reduceEqDiff])
      | (refine AWP.ret ?_; try dsimp only [thn, inBlk])
      | (refine AWP.condT ?_ ?_; (focus (simp [go_sem, hz', hz6', hl']; done)))
      | (refine AWP.condF ?_ ?_; (focus (simp [go_sem, hz', hz6', hl']; done)))
      | (apply AWP.rE; (focus (simp [go_sem, hz', hz6', hl']; exact ⟨rfl, rfl⟩)); try dsimp only [thn, inBlk])
      | fail)
    simp [bodyQ, thn, inBlk, resA, resV, go_sem]
    exact kX
  have hl' : ¬ (1000 : Int) < d.length := by omega
  refine awpL_restE (by simp [go_sem]; exact ⟨rfl, rfl⟩) ?_; try dsimp only [thn, inBlk]
  (repeat' first
    | refine AWP.seq ?_
    | refine AWP.block ?_
    | (refine AWP.skip ?_; try dsimp only [thn, inBlk])
    | (refine AWP.exit ?_; try simp only [thn, inBlk, if_true, reduceIte, Nat.reduceEqDiff])
    | (refine AWP.ret ?_; try dsimp only [thn, inBlk])
    | (refine AWP.condT ?_ ?_; (focus (simp [go_sem, hz', hz6', hl']; done)))
    | (refine AWP.condF ?_ ?_; (focus (simp [go_sem, hz', hz6', hl']; done)))
    | (apply AWP.rE; (focus (simp [go_sem, hz', hz6', hl']; exact ⟨rfl, rfl⟩)); try dsimp only [thn, inBlk])
    | fail)
  refine AWP.callE (by simp [go_sem]; exact ⟨rfl, rfl, rfl, rfl, rfl⟩) (by kernel_rfl) ?_
  refine (rat_calls (p := p) k1 (by omega)).mono ?_
  rintro r h5 ⟨rfl, rfl⟩
  obtain ⟨Z, rfl⟩ : ∃ Z : Nat, z = Z := ⟨z.toNat, by omega⟩
  obtain ⟨a8, n8, h8, e8, k8⟩ := k1.copy (P := Tryz.prog) (t := 32) (xt := 32) (xv := .slice va d.length vc) (xs := d) (i := h5.next) Tryz.underlying32 tsz5 tby5 tz5 nI32 (fun hh kk => hx hh kk.tail.tail) (by omega) rfl
  have ci := k1.obj
  cases hg : get xs p with
  | none =>
    have e : wrR xs who p d Z = (putE xs p ⟨false, who, Z, d⟩, putT xs p ⟨false, who, Z, d⟩) := by
      unfold wrR; rw [if_pos hc, if_neg hr, if_neg hl, hg]; rfl
    have e2 : wrS xs who p d Z = if putE xs p ⟨false, who, Z, d⟩ = 0 then insX (p, ⟨false, who, Z, d⟩) xs else xs := by
      unfold wrS; rw [hg, e]; rfl
    rw [ix_none hg, e, e2]
    refine awpL_restE (by simp [go_sem]; exact ⟨rfl, rfl⟩) ?_; try dsimp only [thn, inBlk]
    (repeat' first
      | refine AWP.seq ?_
      | refine AWP.block ?_
      | (refine AWP.skip ?_; try dsimp only [thn, inBlk])
      | (refine AWP.exit ?_; try simp only [thn, inBlk, if_true, reduceIte, Nat.reduceEqDiff])
      | (refine AWP.ret ?_; try dsimp only [thn, inBlk])
      | (refine AWP.condT ?_ ?_; (focus (simp [go_sem]; done)))
      | (refine AWP.condF ?_ ?_; (focus (simp [go_sem]; done)))
      | (apply AWP.rE; (focus (simp [go_sem]; exact ⟨rfl, rfl⟩)); try dsimp only [thn, inBlk])
      | fail)
    refine AWP.callE (by simp [go_sem, e8]; exact ⟨rfl, rfl, rfl, rfl, rfl⟩) (by kernel_rfl) ?_
    refine (rput_calls (e := ((p, ⟨false, who, Z, d⟩), (a8, n8))) hX k8.p2 hp hpar).mono ?_
    rintro r h7 ⟨rfl, k7⟩
    refine awpL_restE (by simp [go_sem]; exact ⟨rfl, rfl⟩) ?_; try dsimp only [thn, inBlk]
    (repeat' first
      | refine AWP.seq ?_
      | refine AWP.block ?_
      | (refine AWP.skip ?_; try dsimp only [thn, inBlk])
      | (refine AWP.exit ?_; try simp only [thn, inBlk, if_true, reduceIte, Nat.reduceEqDiff])
      | (refine AWP.ret ?_; try dsimp only [thn, inBlk])
      | (refine AWP.condT ?_ ?_; (focus (simp [go_sem]; done)))
      | (refine AWP.condF ?_ ?_; (focus (simp [go_sem]; done)))
      | (apply AWP.rE; (focus (simp [go_sem]; exact ⟨rfl, rfl⟩)); try dsimp only [thn, inBlk])
      | fail)
    simp [bodyQ, thn, inBlk, resA, resV, go_sem]
    exact k7
  | some nd =>
    obtain ⟨q, hq, hqf, hqv⟩ := node_ix hg
    have e : wrR xs who p d Z = if nd.dir = true then (113, xs) else if may who nd 2 = false then (114, xs) else (0, setN xs p { nd with data := d }) := by
      unfold wrR; rw [if_pos hc, if_neg hr, if_neg hl, hg]
    have e2 : wrS xs who p d Z = (wrR xs who p d Z).2 := by unfold wrS; rw [hg]
    rw [hqv, e2, e]
    have hq0 : ¬ (q : Int) < 0 := by omega
    obtain ⟨bi, bo, cc, e', sz, ti, ro, a, cap, q1, q2, q3, q4, q5⟩ := nds_row k1.b1 hq (kd := .i64)
    have q6 : cc[bo + 1]? = some (.bool nd.dir) := by
      have := congrArg (·[1]?) q4
      simp only [List.getElem?_take, List.getElem?_drop] at this
      simpa [agN] using this
    cases hdir : nd.dir
    rotate_left
    · rw [hdir] at q6
      rw [if_pos rfl]
      refine awpL_restE (by simp [go_sem]; exact ⟨rfl, rfl⟩) ?_; try dsimp only [thn, inBlk]
      (repeat' first
        | refine AWP.seq ?_
        | refine AWP.block ?_
        | (refine AWP.skip ?_; try dsimp only [thn, inBlk])
        | (refine AWP.exit ?_; try simp only [thn, inBlk, if_true, reduceIte, Nat.reduceEqDiff])
        | (refine AWP.ret ?_; try dsimp only [thn, inBlk])
        | (refine AWP.condT ?_ ?_; (focus (simp [go_sem, hq0, ci, q1, q2, q6]; done)))
        | (refine AWP.condF ?_ ?_; (focus (simp [go_sem, hq0, ci, q1, q2, q6]; done)))
        | (apply AWP.rE; (focus (simp [go_sem, hq0, ci, q1, q2, q6]; exact ⟨rfl, rfl⟩)); try dsimp only [thn, inBlk])
        | fail)
      simp [bodyQ, thn, inBlk, resA, resV, go_sem]
      exact kX
    rw [hdir] at q6
    rw [if_neg (by decide)]
    refine awpL_restE (by simp [go_sem]; exact ⟨rfl, rfl⟩) ?_; try dsimp only [thn, inBlk]
    (repeat' first
      | refine AWP.seq ?_
      | refine AWP.block ?_
      | (refine AWP.skip ?_; try dsimp only [thn, inBlk])
      | (refine AWP.exit ?_; try simp only [thn, inBlk, if_true, reduceIte, Nat.reduceEqDiff])
      | (refine AWP.ret ?_; try dsimp only [thn, inBlk])
      | (refine AWP.condT ?_ ?_; (focus (simp [go_sem, hq0, ci, q1, q2, q6]; done)))
      | (refine AWP.condF ?_ ?_; (focus (simp [go_sem, hq0, ci, q1, q2, q6]; done)))
      | (apply AWP.rE; (focus (simp [go_sem, hq0, ci, q1, q2, q6]; exact ⟨rfl, rfl⟩)); try dsimp only [thn, inBlk])
      | fail)
    refine AWP.callE (by simp [go_sem, ci, q1, q2, q3, q4]; exact ⟨rfl, rfl, rfl, rfl, rfl⟩) (by kernel_rfl) ?_
    refine (rmay_calls (who := who) (x := (p, nd)) (a := a) (cap := cap) (bit := 2) k1 (hX.mode hq) (by simp)).mono ?_
    rintro r h7 ⟨rfl, k7⟩
    dsimp only
    cases hmay : may who nd 2
    · rw [if_pos rfl]
      refine awpL_restE (by simp [go_sem]; exact ⟨rfl, rfl⟩) ?_; try dsimp only [thn, inBlk]
      (repeat' first
        | refine AWP.seq ?_
        | refine AWP.block ?_
        | (refine AWP.skip ?_; try dsimp only [thn, inBlk])
        | (refine AWP.exit ?_; try simp only [thn, inBlk, if_true, reduceIte, Nat.reduceEqDiff])
        | (refine AWP.ret ?_; try dsimp only [thn, inBlk])
        | (refine AWP.condT ?_ ?_; (focus (simp [go_sem]; done)))
        | (refine AWP.condF ?_ ?_; (focus (simp [go_sem]; done)))
        | (apply AWP.rE; (focus (simp [go_sem]; exact ⟨rfl, rfl⟩)); try dsimp only [thn, inBlk])
        | fail)
      simp [bodyQ, thn, inBlk, resA, resV, go_sem]
      exact rts_iff.2 ⟨v, k7⟩
    rw [if_neg (by decide)]
    obtain ⟨zs, a3, cap3, hzs, hzq, k9⟩ := node_open2 hq k7
    obtain ⟨a9, n9, h9, e9, k10⟩ := k9.copy (P := Tryz.prog) (t := 32) (xt := 32) (xv := .slice va d.length vc) (xs := d) (i := h7.next) Tryz.underlying32 tsz5 tby5 tz5 nI32 (fun hh kk => hx hh kk.tail.rest.tail) (by omega) rfl
    have ci7 := k7.obj
    obtain ⟨b, o, c, ti, p1, r1, m1, k11⟩ := node_setD (nd' := { nd with data := d }) (a' := a9) (cap' := n9) hzs hzq hqf rfl rfl rfl k10
    have m1' : o + 4 + 1 ≤ c.length := by omega
    cases q1.symm.trans p1
    have ci9 := fun oo => (k7.push oo).b1.obj
    refine awpL_restE (by simp [go_sem]; exact ⟨rfl, rfl⟩) ?_; try dsimp only [thn, inBlk]
    (repeat' first
      | refine AWP.seq ?_
      | refine AWP.block ?_
      | (refine AWP.skip ?_; try dsimp only [thn, inBlk])
      | (refine AWP.exit ?_; try simp only [thn, inBlk, if_true, reduceIte, Nat.reduceEqDiff])
      | (refine AWP.ret ?_; try dsimp only [thn, inBlk])
      | (refine AWP.condT ?_ ?_; (focus (simp [go_sem]; done)))
      | (refine AWP.condF ?_ ?_; (focus (simp [go_sem]; done)))
      | (apply AWP.rE; (focus (simp [go_sem]; exact ⟨rfl, rfl⟩)); try dsimp only [thn, inBlk])
      | fail)
    refine AWP.draw hmix [.n 0 [0], .n 1 [61], .n 2 [62], .n 3 [63], .n 4 [12], .n 5 [], .n 6 [3], .w 7 [66, 67] [3], .n 8 [64, 65], .n 9 [69], .w 10 [70, 68] []] (by kernel_rfl) ?_
    have ci10 : h9.obj i = some (rrow v) := (Own.outR (A := [_, _]) k10).obj
    refine awpD_writeR 7 (by rfl) (by rfl) (by simp [go_sem, ci7, ci9, q1, e9, ci10]; exact ⟨rfl, rfl, rfl⟩) (by rfl) (by rfl) (by simp [go_sem]) (by simp [go_sem, ci7, ci9, q1, e9, ci10]; exact ⟨rfl, rfl⟩) (by simp [still, go_sem, ci7, ci9, q1, e9, ci10]) ?_
    refine awpD_writeR 2 (by rfl) (by rfl) (by simp [go_sem, q1, r1, m1']; exact ⟨rfl, rfl, rfl⟩) (by rfl) (by rfl) (by simp [go_sem]) (by simp [go_sem, q1, r1, m1']; exact ⟨rfl, rfl⟩) (by simp [still, go_sem, q1, r1, m1']) ?_
    refine awpD_restR (by rfl) (by simp [go_sem]; exact ⟨rfl, rfl, rfl⟩) ?_; try dsimp only [thn, inBlk]
    (repeat' first
      | refine AWP.seq ?_
      | refine AWP.block ?_
      | (refine AWP.skip ?_; try dsimp only [thn, inBlk])
      | (refine AWP.exit ?_; try simp only [thn, inBlk, if_true, reduceIte, Nat.reduceEqDiff])
      | (refine AWP.ret ?_; try dsimp only [thn, inBlk])
      | (refine AWP.condT ?_ ?_; (focus (simp [go_sem]; done)))
      | (refine AWP.condF ?_ ?_; (focus (simp [go_sem]; done)))
      | (apply AWP.rE; (focus (simp [go_sem]; exact ⟨rfl, rfl⟩)); try dsimp only [thn, inBlk])
      | fail)
    simp [bodyQ, thn, inBlk, resA, resV, go_sem]
    rw [hdir] at k11
    exact k11
end
end L23
end

section
open Go Ab Go.Proofs
namespace L23
set_option autoImplicit false
set_option linter.unusedSimpArgs false
set_option linter.unusedVariables false

theorem kids_take {xs : TL} {q : List UInt8} {j : Nat} {x : List UInt8 × Nd} (hj : xs[j]? = some x) : kids (xs.take (j + 1)) q = kids (xs.take j) q ++ (if kidP q x.1 = true then [base x.1] else []) := by
  rw [List.take_add_one, hj]
  simp only [kids, List.map_append, List.filter_append]
  congr 1
  by_cases h : kidP q x.1 = true <;> simp [h]
theorem base_top {p : List UInt8} (hpb : pathB p = true) (hp : par p = [47]) (h1 : p ≠ [47]) : base p = p.drop 1 := by
  have h0 := pathB_head hpb
  unfold base
  unfold par at hp
  have hpl : 0 < p.length := by rcases p with _ | ⟨c, p⟩; simp at h0; simp
  rcases lastN_spec p 47 p.length with ⟨a, b⟩ | ⟨a, b, c⟩
  · exact absurd h0 (b 0 hpl)
  · by_cases h : 1 < lastN p 47 p.length
    · rw [if_pos h] at hp
      have hl := congrArg List.length hp
      rw [List.length_take, Nat.min_eq_left (by omega)] at hl
      simp at hl
      rw [show lastN p 47 p.length = 2 by omega] at c
      exfalso
      rcases p with _ | ⟨x, _ | ⟨y, t⟩⟩
      · simp at h0
      · simp at c
      · simp at h0 c
        subst h0; subst c
        have : pathB (47 :: 47 :: t) = false := by
          simp [pathB, cut47, splitB, nm]
        rw [this] at hpb; cases hpb
    · rw [show lastN p 47 p.length = 1 by omega]
theorem base_sub {p : List UInt8} (h0 : p[0]? = some 47) (h1 : par p ≠ [47]) : (par p).length + 1 ≤ p.length ∧ base p = p.drop ((par p).length + 1) := by
  unfold base par at *
  by_cases h : 1 < lastN p 47 p.length
  · rw [if_pos h] at h1 ⊢
    have := lastN_le p 47 p.length
    rw [List.length_take, Nat.min_eq_left (by omega)]
    exact ⟨by omega, by rw [show lastN p 47 p.length - 1 + 1 = lastN p 47 p.length by omega]⟩
  · rw [if_neg h] at h1; exact absurd rfl h1
def Sd (S : List (List UInt8)) : Prop := S.Pairwise fun a b => ¬ b < a
theorem not_lt_trans {a b c : List UInt8} (h1 : ¬ b < a) (h2 : ¬ c < b) : ¬ c < a := by
  intro h
  rcases lt_trich b a with q | q | q
  · exact h1 q
  · subst q; exact h2 h
  · rcases lt_trich c b with r | r | r
    · exact h2 r
    · subst r; exact h1 h
    · exact List.lt_irrefl _ (List.lt_trans h (List.lt_trans q r))
theorem Sd.ins {A B : List (List UInt8)} {x : List UInt8} (h : Sd (A ++ B)) (hB : ∀ b ∈ B, x < b) (hA : ∀ a, A.getLast? = some a → ¬ x < a) : Sd (A ++ x :: B) := by
  unfold Sd at *
  rw [List.pairwise_append] at h ⊢
  have hx : ∀ a ∈ A, ¬ x < a := by
    rcases List.eq_nil_or_concat A with rfl | ⟨A', y, rfl⟩
    · simp
    rw [List.concat_eq_append] at *
    have hy := hA y (by simp)
    intro a ha
    rcases List.mem_append.1 ha with ha | ha
    · rw [List.pairwise_append] at h
      exact not_lt_trans (h.1.2.2 a ha y (by simp)) hy
    · rw [List.mem_singleton.1 ha]; exact hy
  refine ⟨h.1, ?_, fun a ha b hb => ?_⟩
  · rw [List.pairwise_cons]
    exact ⟨fun b hb => List.lt_asymm (hB b hb), h.2.1⟩
  · rcases List.mem_cons.1 hb with rfl | hb
    · exact hx a ha
    · exact h.2.2 a ha b hb
section
variable {O : Old} {h : AHeap} {R : List Chunk} {i : Nat} {xs : TL}
theorem lt_ptr {S : List (List UInt8)} {j : Nat} (hj : j < S.length) : (S.map Ab.T)[j]? = some (tx S[j]) := by simp [hj, Ab.T]
set_option maxHeartbeats 32000000 in
theorem rnames_calls {q : List UInt8} {v : Value} (hX : RX xs) (hP : ∀ x ∈ xs, pathB x.1 = true ∧ x.1.length ≤ 100000) (k : Own O h (cell i (rrow v) :: nds v xs :: R)) :
    ACalls Tryz.prog 70 #[ptr i, tx q] h fun r h' => ∃ a cap S, r = .slice a S.length cap ∧ S.Perm (kids xs q) ∧ Sd S ∧ Own O h' (txs (.slice a S.length cap) S :: cell i (rrow v) :: nds v xs :: R) := by
  refine ACalls.of_awp (args := [ptr i, tx q]) (n := 86) Tryz.func70 rfl rfl (by show 2 ≤ 86; omega) ?_
  have hln := hX.ln
  obtain ⟨va, vc, rfl⟩ := k.b1.grecs_val
  have k1 : Own O _ (txs (.slice (some ⟨h.next, 0, none⟩) 0 0) [] :: cell i (rrow (.slice va xs.length vc)) :: nds (.slice va xs.length vc) xs :: R) := (k.push (.row [] 9 1 true false)).row_any (n := 0) rfl
  (repeat' first
    | refine AWP.seq ?_
    | refine AWP.block ?_
    | (refine AWP.skip ?_; try dsimp only [thn, inBlk])
    | (refine AWP.exit ?_; try simp only [thn, inBlk, if_true, reduceIte, Nat.reduceEqDiff])
    | (refine AWP.ret ?_; try dsimp only [thn, inBlk])
    | (refine AWP.condT ?_ ?_; (focus (simp [go_sem]; done)))
    | (refine AWP.condF ?_ ?_; (focus (simp [go_sem]; done)))
    | (apply AWP.rE; (focus (simp [go_sem]; exact ⟨rfl, rfl⟩)); try dsimp only [thn, inBlk])
    | (apply AWP.dE hmix [.n 0 [9], .n 1 [52], .n 2 [53], .n 3 [5, 54], .n 4 [9, 54], .n 5 [55, 56, 54], .n 6 [57, 54], .n 7 [5, 54], .n 8 [9, 54], .n 9 [60, 54], .n 10 [59, 61, 54], .n 11 [62, 54], .n 12 [58, 63, 54], .n 13 [54, 64]]; (focus kernel_rfl); (focus (simp [go_sem]; exact ⟨rfl, rfl⟩)); try dsimp only [thn, inBlk])
    | fail)
  refine AWP.loopR [0, 1, 5, 6] (fun m s h' => ∃ (j : Nat) (a : Option Addr) (cap : Nat) (S : List (List UInt8)), j ≤ xs.length ∧ m = xs.length - j ∧ s = ⟨86, [(0, ptr i), (1, tx q), (5, .slice a S.length cap), (6, .int .i64 j)]⟩ ∧ S.Perm (kids (xs.take j) q) ∧ Sd S ∧
      Own O h' (txs (.slice a S.length cap) S :: cell i (rrow (.slice va xs.length vc)) :: nds (.slice va xs.length vc) xs :: R)) ?_ ?_
  · exact ⟨_, 0, some ⟨h.next, 0, none⟩, 0, [], by omega, rfl, by simp [go_sem], by simp [kids], List.Pairwise.nil, k1⟩
  rintro m s hB ⟨j, a, cap, S, hj, rfl, rfl, hS, hSd, kB⟩
  have ciB := kB.b1.obj
  have hSl : S.length ≤ j := by
    rw [hS.length_eq]
    simp only [kids, List.length_map]
    exact Nat.le_trans (List.length_filter_le _ _) (by rw [List.length_map, List.length_take]; omega)
  by_cases hjm : j < xs.length
  rotate_left
  · have hjm' : ¬ (j : Int) < xs.length := by omega
    obtain rfl : j = xs.length := by omega
    rw [List.take_length] at hS
    (repeat' first
      | refine AWP.seq ?_
      | refine AWP.block ?_
      | (refine AWP.skip ?_; try dsimp only [thn, inBlk])
      | (refine AWP.exit ?_; try simp only [thn, inBlk, if_true, reduceIte, Nat.reduceEqDiff])
      | (refine AWP.ret ?_; try dsimp only [thn, inBlk])
      | (refine AWP.condT ?_ ?_; (focus (simp [go_sem, hjm', ciB]; done)))
      | (refine AWP.condF ?_ ?_; (focus (simp [go_sem, hjm', ciB]; done)))
      | (apply AWP.rE; (focus (simp [go_sem, hjm', ciB]; exact ⟨rfl, rfl⟩)); try dsimp only [thn, inBlk])
      | (apply AWP.dE hmix [.n 0 [9], .n 1 [52], .n 2 [53], .n 3 [5, 54], .n 4 [9, 54], .n 5 [55, 56, 54], .n 6 [57, 54], .n 7 [5, 54], .n 8 [9, 54], .n 9 [60, 54], .n 10 [59, 61, 54], .n 11 [62, 54], .n 12 [58, 63, 54], .n 13 [54, 64]]; (focus kernel_rfl); (focus (simp [go_sem, hjm', ciB]; exact ⟨rfl, rfl⟩)); try dsimp only [thn, inBlk])
      | fail)
    simp [bodyQ, thn, inBlk, resA, resV, go_sem]
    exact ⟨a, cap, S, ⟨rfl, rfl, rfl⟩, hS, hSd, kB⟩
  have hjm' : (j : Int) < xs.length := by omega
  have hj' : xs[j]? = some xs[j] := List.getElem?_eq_getElem hjm
  obtain ⟨hpb, hpl⟩ := hP _ (List.getElem_mem hjm)
  have hkt := kids_take (q := q) hj'
  obtain ⟨bi, bo, cc, e', sz, ti, ro, aa, acap, q1, q2, q3, q4, q5⟩ := nds_row kB.b2 hj' (kd := .i64)
  generalize xs[j] = x at *
  obtain ⟨p, nd⟩ := x
  dsimp only at hpb hpl hkt q5
  have w1 : IntKind.i64.wrap ((j : Int) + 1) = ((j + 1 : Nat) : Int) := by rw [wI64 (by omega) (by omega)]; omega
  by_cases ht : p = [47]
  · have ht' : (p == [47]) = true := by simpa using ht
    have hk : kidP q p = false := by simp [kidP, ht]
    rw [hk] at hkt
    simp only [Bool.false_eq_true, if_false, List.append_nil] at hkt
    (repeat' first
      | refine AWP.seq ?_
      | refine AWP.block ?_
      | (refine AWP.skip ?_; try dsimp only [thn, inBlk])
      | (refine AWP.exit ?_; try simp only [thn, inBlk, if_true, reduceIte, Nat.reduceEqDiff])
      | (refine AWP.ret ?_; try dsimp only [thn, inBlk])
      | (refine AWP.condT ?_ ?_; (focus (simp [go_sem, hjm', ciB, q1, q2, q5, ht', w1]; done)))
      | (refine AWP.condF ?_ ?_; (focus (simp [go_sem, hjm', ciB, q1, q2, q5, ht', w1]; done)))
      | (apply AWP.rE; (focus (simp [go_sem, hjm', ciB, q1, q2, q5, ht', w1]; exact ⟨rfl, rfl⟩)); try dsimp only [thn, inBlk])
      | (apply AWP.dE hmix [.n 0 [9], .n 1 [52], .n 2 [53], .n 3 [5, 54], .n 4 [9, 54], .n 5 [55, 56, 54], .n 6 [57, 54], .n 7 [5, 54], .n 8 [9, 54], .n 9 [60, 54], .n 10 [59, 61, 54], .n 11 [62, 54], .n 12 [58, 63, 54], .n 13 [54, 64]]; (focus kernel_rfl); (focus (simp [go_sem, hjm', ciB, q1, q2, q5, ht', w1]; exact ⟨rfl, rfl⟩)); try dsimp only [thn, inBlk])
      | fail)
    exact ⟨xs.length - (j + 1), by omega, j + 1, a, cap, S, by omega, rfl, by simp [go_sem], by rw [hkt]; exact hS, hSd, kB⟩
  have ht' : (p == [47]) = false := by simpa using ht
  (repeat' first
    | refine AWP.seq ?_
    | refine AWP.block ?_
    | (refine AWP.skip ?_; try dsimp only [thn, inBlk])
    | (refine AWP.exit ?_; try simp only [thn, inBlk, if_true, reduceIte, Nat.reduceEqDiff])
    | (refine AWP.ret ?_; try dsimp only [thn, inBlk])
    | (refine AWP.condT ?_ ?_; (focus (simp [go_sem, hjm', ciB, q1, q2, q5]; done)))
    | (refine AWP.condF ?_ ?_; (focus (simp [go_sem, hjm', ciB, q1, q2, q5]; done)))
    | (apply AWP.rE; (focus (simp [go_sem, hjm', ciB, q1, q2, q5]; exact ⟨rfl, rfl⟩)); try dsimp only [thn, inBlk])
    | (apply AWP.dE hmix [.n 0 [9], .n 1 [52], .n 2 [53], .n 3 [5, 54], .n 4 [9, 54], .n 5 [55, 56, 54], .n 6 [57, 54], .n 7 [5, 54], .n 8 [9, 54], .n 9 [60, 54], .n 10 [59, 61, 54], .n 11 [62, 54], .n 12 [58, 63, 54], .n 13 [54, 64]]; (focus kernel_rfl); (focus (simp [go_sem, hjm', ciB, q1, q2, q5]; exact ⟨rfl, rfl⟩)); try dsimp only [thn, inBlk])
    | fail)
  refine AWP.callE (by simp [go_sem, ht']; exact ⟨rfl, rfl, rfl, rfl, rfl⟩) (by kernel_rfl) ?_
  refine (rpar_calls (l := p) (by omega)).mono ?_
  rintro r h2 ⟨rfl, rfl⟩
  by_cases hpq : par p = q
  rotate_left
  · have hpq' : (par p == q) = false := by simpa using hpq
    have hpqn : (par p != q) = true := by simpa using hpq
    have hk : kidP q p = false := by simp [kidP, hpq]
    rw [hk] at hkt
    simp only [Bool.false_eq_true, if_false, List.append_nil] at hkt
    refine awpL_restE (by simp [go_sem, hpq', hpqn]; exact ⟨rfl, rfl⟩) ?_; try dsimp only [thn, inBlk]
    (repeat' first
      | refine AWP.seq ?_
      | refine AWP.block ?_
      | (refine AWP.skip ?_; try dsimp only [thn, inBlk])
      | (refine AWP.exit ?_; try simp only [thn, inBlk, if_true, reduceIte, Nat.reduceEqDiff])
      | (refine AWP.ret ?_; try dsimp only [thn, inBlk])
      | (refine AWP.condT ?_ ?_; (focus (simp [go_sem, w1]; done)))
      | (refine AWP.condF ?_ ?_; (focus (simp [go_sem, w1]; done)))
      | (apply AWP.rE; (focus (simp [go_sem, w1]; exact ⟨rfl, rfl⟩)); try dsimp only [thn, inBlk])
      | (apply AWP.dE hmix [.n 0 [9], .n 1 [52], .n 2 [53], .n 3 [5, 54], .n 4 [9, 54], .n 5 [55, 56, 54], .n 6 [57, 54], .n 7 [5, 54], .n 8 [9, 54], .n 9 [60, 54], .n 10 [59, 61, 54], .n 11 [62, 54], .n 12 [58, 63, 54], .n 13 [54, 64]]; (focus kernel_rfl); (focus (simp [go_sem, w1]; exact ⟨rfl, rfl⟩)); try dsimp only [thn, inBlk])
      | fail)
    exact ⟨xs.length - (j + 1), by omega, j + 1, a, cap, S, by omega, rfl, by simp [go_sem], by rw [hkt]; exact hS, hSd, kB⟩
  have hpq' : (par p == q) = true := by simpa using hpq
  have hpqn : (par p != q) = false := by simpa using hpq
  have hk : kidP q p = true := by simp [kidP, hpq, ht]
  rw [hk, if_pos rfl] at hkt
  have h0 := pathB_head hpb
  have hp0 : 0 < p.length := by rcases p with _ | ⟨c, p⟩; simp at h0; simp
  have hqp : q.length ≤ p.length := by
    by_cases hq : q = [47]
    · rw [hq]; exact hp0
    · have := (base_sub h0 (by rw [hpq]; exact hq)).1
      rw [hpq] at this; omega
  have s1 : ∀ hh, sliceR Tryz.prog hh 9 (tx p) (some (.int .i64 (q.length : Int))) none none = some (tx (p.drop q.length)) := fun hh => by
    have := str_slice (P := Tryz.prog) (h := hh) Tryz.underlying9 (l := p) (lo := q.length) (hi := p.length) (a := some (.int .i64 (q.length : Int))) (u := none) hqp (by omega) (.inr ⟨.i64, rfl⟩) (.inl ⟨rfl, rfl⟩)
    rw [List.take_length] at this; exact this
  refine awpL_restE (by simp [go_sem, hpq', hpqn]; exact ⟨rfl, rfl⟩) ?_; try dsimp only [thn, inBlk]
  (repeat' first
    | refine AWP.seq ?_
    | refine AWP.block ?_
    | (refine AWP.skip ?_; try dsimp only [thn, inBlk])
    | (refine AWP.exit ?_; try simp only [thn, inBlk, if_true, reduceIte, Nat.reduceEqDiff])
    | (refine AWP.ret ?_; try dsimp only [thn, inBlk])
    | (refine AWP.condT ?_ ?_; (focus (simp [go_sem, s1]; done)))
    | (refine AWP.condF ?_ ?_; (focus (simp [go_sem, s1]; done)))
    | (apply AWP.rE; (focus (simp [go_sem, s1]; exact ⟨rfl, rfl⟩)); try dsimp only [thn, inBlk])
    | (apply AWP.dE hmix [.n 0 [9], .n 1 [52], .n 2 [53], .n 3 [5, 54], .n 4 [9, 54], .n 5 [55, 56, 54], .n 6 [57, 54], .n 7 [5, 54], .n 8 [9, 54], .n 9 [60, 54], .n 10 [59, 61, 54], .n 11 [62, 54], .n 12 [58, 63, 54], .n 13 [54, 64]]; (focus kernel_rfl); (focus (simp [go_sem, s1]; exact ⟨rfl, rfl⟩)); try dsimp only [thn, inBlk])
    | fail)
  refine AWP.cutT [0, 1, 5, 6, 8] (fun s h' => s = ⟨86, [(0, ptr i), (1, tx q), (5, .slice a S.length cap), (6, .int .i64 j), (8, tx (base p))]⟩ ∧ h' = h2) ?_ ?_
  · by_cases hq : q = [47]
    · have hq' : (q == [47]) = true := by simpa using hq
      have hqn : (q != [47]) = false := by simpa using hq
      have hb : base p = p.drop q.length := by rw [base_top hpb (by rw [hpq, hq]) ht, hq]; rfl
      rw [hb]
      (repeat' first
        | refine AWP.seq ?_
        | refine AWP.block ?_
        | (refine AWP.skip ?_; try dsimp only [thn, inBlk])
        | (refine AWP.exit ?_; try simp only [thn, inBlk, if_true, reduceIte, Nat.reduceEqDiff])
        | (refine AWP.ret ?_; try dsimp only [thn, inBlk])
        | (refine AWP.condT ?_ ?_; (focus (simp [go_sem, hq', hqn]; done)))
        | (refine AWP.condF ?_ ?_; (focus (simp [go_sem, hq', hqn]; done)))
        | (apply AWP.rE; (focus (simp [go_sem, hq', hqn]; exact ⟨rfl, rfl⟩)); try dsimp only [thn, inBlk])
        | (apply AWP.dE hmix [.n 0 [9], .n 1 [52], .n 2 [53], .n 3 [5, 54], .n 4 [9, 54], .n 5 [55, 56, 54], .n 6 [57, 54], .n 7 [5, 54], .n 8 [9, 54], .n 9 [60, 54], .n 10 [59, 61, 54], .n 11 [62, 54], .n 12 [58, 63, 54], .n 13 [54, 64]]; (focus kernel_rfl); (focus (simp [go_sem, hq', hqn]; exact ⟨rfl, rfl⟩)); try dsimp only [thn, inBlk])
        | fail)
      exact ⟨by simp [go_sem], rfl⟩
    · have hq' : (q == [47]) = false := by simpa using hq
      have hqn : (q != [47]) = true := by simpa using hq
      obtain ⟨b1, b2⟩ := base_sub h0 (by rw [hpq]; exact hq)
      rw [hpq] at b1 b2
      have s2 : ∀ hh, sliceR Tryz.prog hh 9 (tx (p.drop q.length)) (some (.int .i64 1)) none none = some (tx (base p)) := fun hh => by
        have := str_slice (P := Tryz.prog) (h := hh) Tryz.underlying9 (l := p.drop q.length) (lo := 1) (hi := (p.drop q.length).length) (a := some (.int .i64 1)) (u := none) (by simp; omega) (by omega) (.inr ⟨.i64, rfl⟩) (.inl ⟨rfl, rfl⟩)
        rw [List.take_length, List.drop_drop] at this
        rw [this, b2]
      (repeat' first
        | refine AWP.seq ?_
        | refine AWP.block ?_
        | (refine AWP.skip ?_; try dsimp only [thn, inBlk])
        | (refine AWP.exit ?_; try simp only [thn, inBlk, if_true, reduceIte, Nat.reduceEqDiff])
        | (refine AWP.ret ?_; try dsimp only [thn, inBlk])
        | (refine AWP.condT ?_ ?_; (focus (simp [go_sem, hq', hqn, s2]; done)))
        | (refine AWP.condF ?_ ?_; (focus (simp [go_sem, hq', hqn, s2]; done)))
        | (apply AWP.rE; (focus (simp [go_sem, hq', hqn, s2]; exact ⟨rfl, rfl⟩)); try dsimp only [thn, inBlk])
        | (apply AWP.dE hmix [.n 0 [9], .n 1 [52], .n 2 [53], .n 3 [5, 54], .n 4 [9, 54], .n 5 [55, 56, 54], .n 6 [57, 54], .n 7 [5, 54], .n 8 [9, 54], .n 9 [60, 54], .n 10 [59, 61, 54], .n 11 [62, 54], .n 12 [58, 63, 54], .n 13 [54, 64]]; (focus kernel_rfl); (focus (simp [go_sem, hq', hqn, s2]; exact ⟨rfl, rfl⟩)); try dsimp only [thn, inBlk])
        | fail)
      exact ⟨by simp [go_sem], rfl⟩
  rintro s h3 ⟨rfl, rfl⟩
  generalize base p = x at *
  obtain ⟨na, nc, h7, e7, k7⟩ := Own.appN (P := Tryz.prog) (t := 71) (xt := 71) (m := 1) (xs := [tx x]) (i := h3.next) Tryz.underlying71 tsz9 tby9 tz9 nI71 (by omega) (by omega) (by rfl) kB rfl rfl rfl (by omega)
  have k8 : Own O h7 (os 9 1 (.slice na (S.length + 1) nc) (S.length + 1) ((S ++ [x]).map Ab.T) :: cell i (rrow (.slice va xs.length vc)) :: nds (.slice va xs.length vc) xs :: R) := by
    have e2 : (S ++ [x]).map T = S.map T ++ [tx x] := by simp [T]
    rw [e2]; exact k7
  have wK : IntKind.i64.wrap (S.length : Int) = (S.length : Int) := wI64 (by omega) (by omega)
  (repeat' first
    | refine AWP.seq ?_
    | refine AWP.block ?_
    | (refine AWP.skip ?_; try dsimp only [thn, inBlk])
    | (refine AWP.exit ?_; try simp only [thn, inBlk, if_true, reduceIte, Nat.reduceEqDiff])
    | (refine AWP.ret ?_; try dsimp only [thn, inBlk])
    | (refine AWP.condT ?_ ?_; (focus (simp [go_sem, e7, wK]; done)))
    | (refine AWP.condF ?_ ?_; (focus (simp [go_sem, e7, wK]; done)))
    | (apply AWP.rE; (focus (simp [go_sem, e7, wK]; exact ⟨rfl, rfl⟩)); try dsimp only [thn, inBlk])
    | (apply AWP.dE hmix [.n 0 [9], .n 1 [52], .n 2 [53], .n 3 [5, 54], .n 4 [9, 54], .n 5 [55, 56, 54], .n 6 [57, 54], .n 7 [5, 54], .n 8 [9, 54], .n 9 [60, 54], .n 10 [59, 61, 54], .n 11 [62, 54], .n 12 [58, 63, 54], .n 13 [54, 64]]; (focus kernel_rfl); (focus (simp [go_sem, e7, wK]; exact ⟨rfl, rfl⟩)); try dsimp only [thn, inBlk])
    | fail)
  generalize hV : Value.slice na (S.length + 1) nc = V at *
  refine AWP.loopR [0, 1, 6, 5, 9] (fun m s h' => ∃ (A B : List (List UInt8)), m = A.length ∧ S = A ++ B ∧ (∀ b ∈ B, x < b) ∧ s = ⟨86, [(0, ptr i), (1, tx q), (6, .int .i64 j), (5, V), (9, .int .i64 A.length)]⟩ ∧ Own O h' (os 9 1 V (S.length + 1) ((A ++ x :: B).map Ab.T) :: cell i (rrow (.slice va xs.length vc)) :: nds (.slice va xs.length vc) xs :: R)) ?_ ?_
  · exact ⟨_, S, [], rfl, by simp, by simp, by simp [go_sem], k8⟩
  rintro m s hE ⟨A, B, rfl, hAB, hB2, rfl, kE⟩
  have fin : (∀ y, A.getLast? = some y → ¬ x < y) → ∃ (S2 : List (List UInt8)), S2.length = S.length + 1 ∧ S2.Perm (kids (xs.take (j + 1)) q) ∧ Sd S2 ∧ Own O hE (txs (.slice na S2.length nc) S2 :: cell i (rrow (.slice va xs.length vc)) :: nds (.slice va xs.length vc) xs :: R) := fun hy => by
    have hl : (A ++ x :: B).length = S.length + 1 := by rw [hAB]; simp; omega
    refine ⟨A ++ x :: B, hl, ?_, ?_, ?_⟩
    · rw [hkt]
      refine List.perm_middle.trans ?_
      rw [← hAB]
      exact ((List.Perm.cons x hS).trans (List.perm_append_comm (l₁ := [x])))
    · rw [hAB] at hSd; exact hSd.ins hB2 hy
    · show Own O hE (os 9 1 (.slice na (A ++ x :: B).length nc) (A ++ x :: B).length ((A ++ x :: B).map Ab.T) :: _)
      rw [hl, hV]; exact kE
  rcases List.eq_nil_or_concat A with rfl | ⟨A', y, rfl⟩
  · obtain ⟨S2, hl, f1, f2, f3⟩ := fin (by simp)
    (repeat' first
      | refine AWP.seq ?_
      | refine AWP.block ?_
      | (refine AWP.skip ?_; try dsimp only [thn, inBlk])
      | (refine AWP.exit ?_; try simp only [thn, inBlk, if_true, reduceIte, Nat.reduceEqDiff])
      | (refine AWP.ret ?_; try dsimp only [thn, inBlk])
      | (refine AWP.condT ?_ ?_; (focus (simp [go_sem, w1]; done)))
      | (refine AWP.condF ?_ ?_; (focus (simp [go_sem, w1]; done)))
      | (apply AWP.rE; (focus (simp [go_sem, w1]; exact ⟨rfl, rfl⟩)); try dsimp only [thn, inBlk])
      | (apply AWP.dE hmix [.n 0 [9], .n 1 [52], .n 2 [53], .n 3 [5, 54], .n 4 [9, 54], .n 5 [55, 56, 54], .n 6 [57, 54], .n 7 [5, 54], .n 8 [9, 54], .n 9 [60, 54], .n 10 [59, 61, 54], .n 11 [62, 54], .n 12 [58, 63, 54], .n 13 [54, 64]]; (focus kernel_rfl); (focus (simp [go_sem, w1]; exact ⟨rfl, rfl⟩)); try dsimp only [thn, inBlk])
      | fail)
    exact ⟨xs.length - (j + 1), by omega, j + 1, na, nc, S2, by omega, rfl, by rw [hl, hV]; simp [go_sem], f1, f2, f3⟩
  rw [List.concat_eq_append] at *
  obtain ⟨p1, hp1⟩ : ∃ p, p = A'.length := ⟨_, rfl⟩
  obtain ⟨q9, hq9⟩ : ∃ q, q = p1 + 1 := ⟨_, rfl⟩
  have hlA : (A' ++ [y]).length = q9 := by simp; omega
  have hKl : q9 ≤ S.length := by rw [hAB, List.length_append, hlA]; omega
  rw [hlA]
  have hq0 : (0 : Int) < q9 := by omega
  have hq0' : 0 < q9 := by omega
  have wq : IntKind.i64.wrap ((q9 : Int) - 1) = (p1 : Int) := by rw [wI64 (by omega) (by omega)]; omega
  have hL : A' ++ [y] ++ x :: B = A' ++ y :: x :: B := by simp
  rw [hL] at kE
  have hnl : (A' ++ y :: x :: B).length = S.length + 1 := by rw [hAB]; simp; omega
  have hx1 : ((A' ++ y :: x :: B).map Ab.T)[q9]? = some (tx x) := by
    rw [List.getElem?_map, List.getElem?_append_right (by omega), show q9 - A'.length = 1 by omega]; rfl
  have hx0 : ((A' ++ y :: x :: B).map Ab.T)[p1]? = some (tx y) := by
    rw [List.getElem?_map, List.getElem?_append_right (by omega), show p1 - A'.length = 0 by omega]; rfl
  have hnq : q9 < S.length + 1 := by omega
  have hnp : p1 < S.length + 1 := by omega
  obtain ⟨b1, o1, c1, _, _, _, _, a1, r1, u1⟩ := kE.os_sl.at1 (P := Tryz.prog) (t := 71) Tryz.underlying71 tsz9 hnq hx1 (kd := .i64)
  obtain ⟨b2, o2, c2, _, _, _, _, a2, r2, u2⟩ := kE.os_sl.at1 (P := Tryz.prog) (t := 71) Tryz.underlying71 tsz9 hnp hx0 (kd := .i64)
  by_cases hlt : x < y
  rotate_left
  · obtain ⟨S2, hl, f1, f2, f3⟩ := fin (fun z hz => by simp at hz; rw [← hz]; exact hlt)
    (repeat' first
      | refine AWP.seq ?_
      | refine AWP.block ?_
      | (refine AWP.skip ?_; try dsimp only [thn, inBlk])
      | (refine AWP.exit ?_; try simp only [thn, inBlk, if_true, reduceIte, Nat.reduceEqDiff])
      | (refine AWP.ret ?_; try dsimp only [thn, inBlk])
      | (refine AWP.condT ?_ ?_; (focus (simp [go_sem, hq0, hq0', wq, a1, r1, u1, a2, r2, u2, strA_lss, hlt, w1]; done)))
      | (refine AWP.condF ?_ ?_; (focus (simp [go_sem, hq0, hq0', wq, a1, r1, u1, a2, r2, u2, strA_lss, hlt, w1]; done)))
      | (apply AWP.rE; (focus (simp [go_sem, hq0, hq0', wq, a1, r1, u1, a2, r2, u2, strA_lss, hlt, w1]; exact ⟨rfl, rfl⟩)); try dsimp only [thn, inBlk])
      | (apply AWP.dE hmix [.n 0 [9], .n 1 [52], .n 2 [53], .n 3 [5, 54], .n 4 [9, 54], .n 5 [55, 56, 54], .n 6 [57, 54], .n 7 [5, 54], .n 8 [9, 54], .n 9 [60, 54], .n 10 [59, 61, 54], .n 11 [62, 54], .n 12 [58, 63, 54], .n 13 [54, 64]]; (focus kernel_rfl); (focus (simp [go_sem, hq0, hq0', wq, a1, r1, u1, a2, r2, u2, strA_lss, hlt, w1]; exact ⟨rfl, rfl⟩)); try dsimp only [thn, inBlk])
      | fail)
    exact ⟨xs.length - (j + 1), by omega, j + 1, na, nc, S2, by omega, rfl, by rw [hl, hV]; simp [go_sem], f1, f2, f3⟩
  have hs1 : (A' ++ y :: x :: B).set q9 y = A' ++ y :: y :: B := by
    rw [List.set_append_right _ _ (by omega), show q9 - A'.length = 1 by omega]; rfl
  have hs2 : (A' ++ y :: y :: B).set p1 x = A' ++ x :: y :: B := by
    rw [List.set_append_right _ _ (by omega), show p1 - A'.length = 0 by omega]; rfl
  obtain ⟨b3, o3, c3, ti3, a3, r3, m3, k12⟩ := Own.ts_write (P := Tryz.prog) (t := 71) hnl.symm kE Tryz.underlying71 tsz9 hnq y (kd := .i64)
  cases a1.symm.trans a3
  rw [hs1] at k12
  obtain ⟨b4, o4, c4, ti4, a4, r4, m4, k13⟩ := Own.ts_write (P := Tryz.prog) (t := 71) (by simp at hnl ⊢; omega) k12 Tryz.underlying71 tsz9 hnp x (kd := .i64)
  cases a2.symm.trans a4
  rw [hs2] at k13
  have m3' : o1 + 1 ≤ c3.length := m3
  have m4' : o2 + 1 ≤ c4.length := m4
  cases r1.symm.trans r3
  generalize hG : hE.set b1 (.row (c1.set o1 (.string ⟨y.toArray⟩)) 9 1 _ false) = hF at *
  (repeat' first
    | refine AWP.seq ?_
    | refine AWP.block ?_
    | (refine AWP.skip ?_; try dsimp only [thn, inBlk])
    | (refine AWP.exit ?_; try simp only [thn, inBlk, if_true, reduceIte, Nat.reduceEqDiff])
    | (refine AWP.ret ?_; try dsimp only [thn, inBlk])
    | (refine AWP.condT ?_ ?_; (focus (simp [go_sem, hq0, hq0', wq, a1, r1, u1, a2, r2, u2, strA_lss, hlt, m3', hG, r4, m4']; done)))
    | (refine AWP.condF ?_ ?_; (focus (simp [go_sem, hq0, hq0', wq, a1, r1, u1, a2, r2, u2, strA_lss, hlt, m3', hG, r4, m4']; done)))
    | (apply AWP.rE; (focus (simp [go_sem, hq0, hq0', wq, a1, r1, u1, a2, r2, u2, strA_lss, hlt, m3', hG, r4, m4']; exact ⟨rfl, rfl⟩)); try dsimp only [thn, inBlk])
    | (apply AWP.dE hmix [.n 0 [9], .n 1 [52], .n 2 [53], .n 3 [5, 54], .n 4 [9, 54], .n 5 [55, 56, 54], .n 6 [57, 54], .n 7 [5, 54], .n 8 [9, 54], .n 9 [60, 54], .n 10 [59, 61, 54], .n 11 [62, 54], .n 12 [58, 63, 54], .n 13 [54, 64]]; (focus kernel_rfl); (focus (simp [go_sem, hq0, hq0', wq, a1, r1, u1, a2, r2, u2, strA_lss, hlt, m3', hG, r4, m4']; exact ⟨rfl, rfl⟩)); try dsimp only [thn, inBlk])
    | fail)
  refine ⟨A'.length, by omega, A', y :: B, rfl, by rw [hAB, List.append_assoc]; rfl, fun b hb => ?_, by rw [← hp1]; simp [go_sem], k13⟩
  rcases List.mem_cons.1 hb with rfl | hb
  · exact hlt
  · exact hB2 b hb
end
end L23
end

