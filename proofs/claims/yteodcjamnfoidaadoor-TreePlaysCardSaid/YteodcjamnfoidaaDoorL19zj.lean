import Derived.Test.YteodcjamnfoidaaDoorL19zi
open Go Ab Go.Proofs
namespace L19
set_option autoImplicit false
set_option linter.unusedSimpArgs false
set_option linter.unusedVariables false

theorem setL_one {c rs : List Value} {off f : Nat} {v : Value} (hl : off + rs.length ≤ c.length) (h : (c.drop off).take rs.length = rs) (hf : f < rs.length) : setL c off (rs.set f v) = c.set (off + f) v := by
  rw [setL_eq _ _ _ (by rw [List.length_set]; exact hl)]
  apply List.ext_getElem?
  intro k
  rw [List.length_set, List.getElem?_set]
  have hr : ∀ q, q < rs.length → rs[q]? = c[off + q]? := fun q hq => by
    conv => lhs; rw [← h]
    rw [List.getElem?_take, if_pos hq, List.getElem?_drop]
  by_cases h1 : k < off
  · rw [List.append_assoc, List.getElem?_append_left (by rw [List.length_take]; omega), List.getElem?_take, if_pos h1, if_neg (by omega)]
  · by_cases h2 : k < off + rs.length
    · rw [List.append_assoc, List.getElem?_append_right (by rw [List.length_take]; omega), List.length_take, Nat.min_eq_left (by omega), List.getElem?_append_left (by rw [List.length_set]; omega), List.getElem?_set]
      by_cases h3 : f = k - off
      · rw [if_pos h3, if_pos (by omega), if_pos (by omega), if_pos (by omega)]
      · rw [if_neg h3, if_neg (by omega), hr _ (by omega), show off + (k - off) = k by omega]
    · rw [List.getElem?_append_right (by simp; omega), if_neg (by omega), List.getElem?_drop]
      congr 1
      simp; omega
/-- What is changed of one node. -/
theorem set_sb {zs : List NZ} {q : Nat} {z z' : NZ} (hz : zs[q]? = some z) (he : sb z' = sb z) : (zs.set q z').map sb = zs.map sb := by
  obtain ⟨hq, hz⟩ := List.getElem?_eq_some_iff.1 hz
  rw [List.map_set, he]
  apply List.ext_getElem?
  intro k
  rw [List.getElem?_set]
  split
  · rename_i e; subst e
    rw [if_pos (by simpa using hq), List.getElem?_map, List.getElem?_eq_getElem hq, hz]; rfl
  · rfl
theorem set_xs {zs : List NZ} {q : Nat} {z' : NZ} {xs : TL} {p : List UInt8} {n : Nd} (hz : zs.map (·.1) = xs) (hx : z'.1 = (p, n)) (hf : xs.findIdx? (fun x => x.1 == p) = some q) : (zs.set q z').map (·.1) = setN xs p n := by
  rw [List.map_set, hz, hx]; simp only [setN, hf]
section
variable {O : Old} {h : AHeap} {R : List Chunk} {i : Nat} {xs : TL}
theorem rnew_calls (k : Own O h R) : ACalls Tryd.prog 22 #[] h fun r h' => ∃ i, r = ptr i ∧ Own O h' (rts i [top] :: R) := by
  refine ACalls.of_awp (args := []) (n := 5) Tryd.func22 rfl rfl (by show 0 ≤ 5; omega) ?_
  have k1 : Own O _ (nzs (.slice (some ⟨h.next, 0, none⟩) 1 1) [(top, (none, 0))] :: R) := (k.push (.row [tx [47], .bool true, tx rootB, .int .i64 61, .slice none 0 0] 43 5 true false)).os_mk (Nat.le_refl _) (by simp) (by simp [nz, top])
  have k2 := k1.push (rrow (.slice (some ⟨h.next, 0, none⟩) 1 1))
  (repeat' first
    | refine AWP.seq ?_
    | refine AWP.block ?_
    | (refine AWP.skip ?_; try dsimp only [thn, inBlk])
    | (refine AWP.exit ?_; try simp only [thn, inBlk, if_true, reduceIte, Nat.reduceEqDiff])
    | (refine AWP.ret ?_; try dsimp only [thn, inBlk])
    | (refine AWP.condT ?_ ?_; (focus (simp [go_sem]; done)))
    | (refine AWP.condF ?_ ?_; (focus (simp [go_sem]; done)))
    | (apply AWP.rE; (focus (simp [go_sem]; exact ⟨rfl, rfl⟩)); try dsimp only [thn, inBlk])
    | fail)
  simp [bodyQ, thn, inBlk, resA, resV, go_sem]
  have k3 : Own O _ (nds (.slice (some ⟨h.next, 0, none⟩) 1 1) [top] :: cell (h.next + 1) (rrow (.slice (some ⟨h.next, 0, none⟩) 1 1)) :: R) := nds_zs.2 ⟨[(top, (none, 0))], rfl, (k2.nil 5 1).b2⟩
  exact rts_iff.2 ⟨_, k3.b1⟩
theorem node_ix {p : List UInt8} {nd : Nd} (hg : get xs p = some nd) : ∃ q : Nat, xs[q]? = some (p, nd) ∧ xs.findIdx? (fun x => x.1 == p) = some q ∧ idxV xs p = q := by
  obtain ⟨q, hq, hqf⟩ := findIdx_get hg
  have : idxE xs p = some q := hqf
  exact ⟨q, hq, hqf, by simp only [idxV, this]⟩
theorem ix_none {p : List UInt8} (hg : get xs p = none) : idxV xs p = -1 := by
  have : idxE xs p = none := by
    unfold idxE
    rw [List.findIdx?_eq_none_iff]
    intro x hx; simpa using get_none hg x hx
  simp only [idxV, this]
def mkS (xs : TL) (who p : List UInt8) (z : Int) : TL := if (mkR xs who p z).1 = 0 then insX (p, ⟨true, who, z.toNat, []⟩) xs else xs
set_option maxHeartbeats 8000000 in
theorem rmkdir_calls {who p : List UInt8} {z : Int} (hX : RX xs) (hT : ∃ nd, get xs [47] = some nd) (k : Own O h (rts i xs :: R)) (hp : p.length ≤ 100000) :
    ACalls Tryd.prog 26 #[ptr i, tx who, tx p, .int .i64 z] h fun r h' => r = .int .i64 (mkR xs who p z).1 ∧ Own O h' (rts i (mkS xs who p z) :: R) := by
  refine ACalls.of_awp (args := [ptr i, tx who, tx p, .int .i64 z]) (n := 33) Tryd.func26 rfl rfl (by show 4 ≤ 33; omega) ?_
  obtain ⟨v, k0⟩ := rts_iff.1 k
  have hln := hX.ln
  (repeat' first
    | refine AWP.seq ?_
    | refine AWP.block ?_
    | (refine AWP.skip ?_; try dsimp only [thn, inBlk])
    | (refine AWP.exit ?_; try simp only [thn, inBlk, if_true, reduceIte, Nat.reduceEqDiff])
    | (refine AWP.ret ?_; try dsimp only [thn, inBlk])
    | (refine AWP.condT ?_ ?_; (focus (simp [go_sem]; done)))
    | (refine AWP.condF ?_ ?_; (focus (simp [go_sem]; done)))
    | (apply AWP.rE; (focus (simp [go_sem]; exact ⟨rfl, rfl⟩)); try dsimp only [thn, inBlk])
    | fail)
  refine AWP.callE (by simp [go_sem]; exact ⟨rfl, rfl, rfl, rfl, rfl⟩) (by kernel_rfl) ?_
  refine (rcome_calls (who := who) (p := p) hX k0 hp).mono ?_
  rintro r h1 ⟨rfl, k1⟩
  have kX := rts_iff.2 ⟨v, k1⟩
  by_cases hc : comeE xs who p = 0
  rotate_left
  · have hc' : (comeE xs who p != 0) = true := by simpa using hc
    have e : mkR xs who p z = (comeE xs who p, xs) := by simp [mkR, hc]
    have e2 : mkS xs who p z = xs := by simp [mkS, e, hc]
    rw [e, e2]
    generalize comeE xs who p = y at *
    refine awpL_restE (by simp [go_sem]; exact ⟨rfl, rfl⟩) ?_; try dsimp only [thn, inBlk]
    (repeat' first
      | refine AWP.seq ?_
      | refine AWP.block ?_
      | (refine AWP.skip ?_; try dsimp only [thn, inBlk])
      | (refine AWP.exit ?_; try simp only [thn, inBlk, if_true, reduceIte, Nat.reduceEqDiff])
      | (refine AWP.ret ?_; try dsimp only [thn, inBlk])
      | (refine AWP.condT ?_ ?_; (focus (simp [go_sem, hc']; done)))
      | (refine AWP.condF ?_ ?_; (focus (simp [go_sem, hc']; done)))
      | (apply AWP.rE; (focus (simp [go_sem, hc']; exact ⟨rfl, rfl⟩)); try dsimp only [thn, inBlk])
      | fail)
    simp [bodyQ, thn, inBlk, resA, resV, go_sem]
    exact kX
  obtain ⟨nd, hpar⟩ : ∃ nd, get xs (par p) = some nd := by
    by_cases hp1 : p = [47]
    · rw [hp1]; exact hT
    · obtain ⟨nd, q, _⟩ := come_parent hc hp1
      exact ⟨nd, q⟩
  have e0 : mkR xs who p z = if rightB z = false then (1, xs) else match get xs p with
      | some _ => (111, xs)
      | none => (putE xs p ⟨true, who, z.toNat, []⟩, putT xs p ⟨true, who, z.toNat, []⟩) := by
    simp only [mkR, hc, if_true]; cases get xs p <;> rfl
  rw [hc]
  by_cases hz : 0 ≤ z
  rotate_left
  · have hz' : z < 0 := by omega
    have e : mkR xs who p z = (1, xs) := by rw [e0, if_pos (by simp [rightB]; omega)]
    have e2 : mkS xs who p z = xs := by simp [mkS, e]
    rw [e, e2]
    refine awpL_restE (by simp [go_sem]; exact ⟨rfl, rfl⟩) ?_; try dsimp only [thn, inBlk]
    (repeat' first
      | refine AWP.seq ?_
      | refine AWP.block ?_
      | (refine AWP.skip ?_; try dsimp only [thn, inBlk])
      | (refine AWP.exit ?_; try simp only [thn, inBlk, if_true, reduceIte, Nat.reduceEqDiff])
      | (refine AWP.ret ?_; try dsimp only [thn, inBlk])
      | (refine AWP.condT ?_ ?_; (focus (simp [go_sem, hz']; done)))
      | (refine AWP.condF ?_ ?_; (focus (simp [go_sem, hz']; done)))
      | (apply AWP.rE; (focus (simp [go_sem, hz']; exact ⟨rfl, rfl⟩)); try dsimp only [thn, inBlk])
      | fail)
    simp [bodyQ, thn, inBlk, resA, resV, go_sem]
    exact kX
  have hz' : ¬ z < 0 := by omega
  by_cases hz6 : z ≤ 63
  rotate_left
  · have hz6' : 63 < z := by omega
    have e : mkR xs who p z = (1, xs) := by rw [e0, if_pos (by simp [rightB]; omega)]
    have e2 : mkS xs who p z = xs := by simp [mkS, e]
    rw [e, e2]
    refine awpL_restE (by simp [go_sem]; exact ⟨rfl, rfl⟩) ?_; try dsimp only [thn, inBlk]
    (repeat' first
      | refine AWP.seq ?_
      | refine AWP.block ?_
      | (refine AWP.skip ?_; try dsimp only [thn, inBlk])
      | (refine AWP.exit ?_; try simp only [thn, inBlk, if_true, reduceIte, Nat.reduceEqDiff])
      | (refine AWP.ret ?_; try dsimp only [thn, inBlk])
      | (refine AWP.condT ?_ ?_; (focus (simp [go_sem, hz', hz6']; done)))
      | (refine AWP.condF ?_ ?_; (focus (simp [go_sem, hz', hz6']; done)))
      | (apply AWP.rE; (focus (simp [go_sem, hz', hz6']; exact ⟨rfl, rfl⟩)); try dsimp only [thn, inBlk])
      | fail)
    simp [bodyQ, thn, inBlk, resA, resV, go_sem]
    exact kX
  have hz6' : ¬ 63 < z := by omega
  rw [if_neg (by simp [rightB]; omega)] at e0
  refine awpL_restE (by simp [go_sem]; exact ⟨rfl, rfl⟩) ?_; try dsimp only [thn, inBlk]
  (repeat' first
    | refine AWP.seq ?_
    | refine AWP.block ?_
    | (refine AWP.skip ?_; try dsimp only [thn, inBlk])
    | (refine AWP.exit ?_; try simp only [thn, inBlk, if_true, reduceIte, Nat.reduceEqDiff])
    | (refine AWP.ret ?_; try dsimp only [thn, inBlk])
    | (refine AWP.condT ?_ ?_; (focus (simp [go_sem, hz', hz6']; done)))
    | (refine AWP.condF ?_ ?_; (focus (simp [go_sem, hz', hz6']; done)))
    | (apply AWP.rE; (focus (simp [go_sem, hz', hz6']; exact ⟨rfl, rfl⟩)); try dsimp only [thn, inBlk])
    | fail)
  refine AWP.callE (by simp [go_sem]; exact ⟨rfl, rfl, rfl, rfl, rfl⟩) (by kernel_rfl) ?_
  refine (rat_calls (p := p) k1 (by omega)).mono ?_
  rintro r h5 ⟨rfl, rfl⟩
  cases hg : get xs p with
  | some n1 =>
    obtain ⟨q, hq, _, hqv⟩ := node_ix hg
    rw [hg] at e0
    have e2 : mkS xs who p z = xs := by simp [mkS, e0]
    have hq0 : (0 : Int) ≤ q := by omega
    rw [hqv, e0, e2]
    refine awpL_restE (by simp [go_sem, hq0]; exact ⟨rfl, rfl⟩) ?_; try dsimp only [thn, inBlk]
    (repeat' first
      | refine AWP.seq ?_
      | refine AWP.block ?_
      | (refine AWP.skip ?_; try dsimp only [thn, inBlk])
      | (refine AWP.exit ?_; try simp only [thn, inBlk, if_true, reduceIte, Nat.reduceEqDiff])
      | (refine AWP.ret ?_; try dsimp only [thn, inBlk])
      | (refine AWP.condT ?_ ?_; (focus (simp [go_sem, hq0]; done)))
      | (refine AWP.condF ?_ ?_; (focus (simp [go_sem, hq0]; done)))
      | (apply AWP.rE; (focus (simp [go_sem, hq0]; exact ⟨rfl, rfl⟩)); try dsimp only [thn, inBlk])
      | fail)
    simp [bodyQ, thn, inBlk, resA, resV, go_sem]
    exact kX
  | none =>
    rw [hg] at e0
    dsimp only at e0
    have e2 : mkS xs who p z = if putE xs p ⟨true, who, z.toNat, []⟩ = 0 then insX (p, ⟨true, who, z.toNat, []⟩) xs else xs := by simp only [mkS, e0]
    rw [ix_none hg, e0, e2]
    obtain ⟨Z, rfl⟩ : ∃ Z : Nat, z = Z := ⟨z.toNat, by omega⟩
    refine awpL_restE (by simp [go_sem]; exact ⟨rfl, rfl⟩) ?_; try dsimp only [thn, inBlk]
    (repeat' first
      | refine AWP.seq ?_
      | refine AWP.block ?_
      | (refine AWP.skip ?_; try dsimp only [thn, inBlk])
      | (refine AWP.exit ?_; try simp only [thn, inBlk, if_true, reduceIte, Nat.reduceEqDiff])
      | (refine AWP.ret ?_; try dsimp only [thn, inBlk])
      | (refine AWP.condT ?_ ?_; (focus (simp [go_sem]; done)))
      | (refine AWP.condF ?_ ?_; (focus (simp [go_sem]; done)))
      | (apply AWP.rE; (focus (simp [go_sem]; exact ⟨rfl, rfl⟩)); try dsimp only [thn, inBlk])
      | fail)
    refine AWP.callE (by simp [go_sem]; exact ⟨rfl, rfl, rfl, rfl, rfl⟩) (by kernel_rfl) ?_
    have k2 : Own O h5 (cell i (rrow v) :: nds v xs :: sb ((p, ⟨true, who, Z, []⟩), (none, 0)) :: R) := ((k1.nil 5 1).b1).b2.b1
    refine (rput_calls (e := ((p, ⟨true, who, Z, []⟩), (none, 0))) hX k2 hp hpar).mono ?_
    rintro r h7 ⟨rfl, k7⟩
    refine awpL_restE (by simp [go_sem]; exact ⟨rfl, rfl⟩) ?_; try dsimp only [thn, inBlk]
    (repeat' first
      | refine AWP.seq ?_
      | refine AWP.block ?_
      | (refine AWP.skip ?_; try dsimp only [thn, inBlk])
      | (refine AWP.exit ?_; try simp only [thn, inBlk, if_true, reduceIte, Nat.reduceEqDiff])
      | (refine AWP.ret ?_; try dsimp only [thn, inBlk])
      | (refine AWP.condT ?_ ?_; (focus (simp [go_sem]; done)))
      | (refine AWP.condF ?_ ?_; (focus (simp [go_sem]; done)))
      | (apply AWP.rE; (focus (simp [go_sem]; exact ⟨rfl, rfl⟩)); try dsimp only [thn, inBlk])
      | fail)
    simp [bodyQ, thn, inBlk, resA, resV, go_sem]
    exact k7
end
end L19
