import Derived.Test.YtjjocbijmhmdkaaL18zd
open Go Ab Go.Proofs
namespace L18
set_option autoImplicit false
set_option linter.unusedSimpArgs false
set_option linter.unusedVariables false
attribute [local irreducible] pcells

/-! ### One side reads -/
def pget (P : PS) (s c : Nat) (n : Int) : PS :=
  { P with i := up P.i s (mread (P.i s) c n).2, rd := up P.rd (s * 4 + c) (P.rd (s * 4 + c) ++ (mread (P.i s) c n).1) }
theorem pcells_oi (P : PS) (A : Ad) (x : Nat → List Hf) (y : Nat → List Ot) : pcells { P with o := x, i := y } A = pcells P A := by
  unfold pcells; rfl
section
variable {P : PS} {A : Ad} {s c : Nat}
structure PB (s c : Nat) : Prop where
  b : s * 4 + c ≤ 7 ∧ s ≤ 1 ∧ c ≤ 3 ∧ s ≤ 27 ∧ 2 + s ≤ 27 ∧ 4 + s * 4 + c ≤ 27 ∧ 12 + s * 4 + c ≤ 27 ∧ 20 + s * 4 + c ≤ 27 ∧ 4 + s * 4 ≤ 27 ∧ 12 + s * 4 ≤ 27 ∧ 20 + s * 4 ≤ 27
theorem pbs (hs : s < 2) (hc : c < 4) : PB s c := ⟨by omega⟩
theorem gc_wr (hs : s < 2) (hc : c < 4) : (pcells P A)[4 + s * 4 + c]? = some (.slice (A.pw (s * 4 + c)).1 (P.wr (s * 4 + c)).length (A.pw (s * 4 + c)).2) := by
  rw [Nat.add_assoc]; exact pc_wr (by omega)
theorem gc_rd (hs : s < 2) (hc : c < 4) : (pcells P A)[12 + s * 4 + c]? = some (.slice (A.pr (s * 4 + c)).1 (P.rd (s * 4 + c)).length (A.pr (s * 4 + c)).2) := by
  rw [Nat.add_assoc]; exact pc_rd (by omega)
theorem gc_cl (hs : s < 2) (hc : c < 4) : (pcells P A)[20 + s * 4 + c]? = some (.bool (P.cl (s * 4 + c))) := by
  rw [Nat.add_assoc]; exact pc_cl (by omega)
end
theorem sub1 {s : Nat} (hs : s < 2) : IntKind.i64.wrap (1 - (s : Int)) = ((1 - s : Nat) : Int) := by rw [wI64 (by omega) (by omega)]; omega
theorem Own.piece_ob {O : Old} {h : AHeap} {R : List Chunk} {b : Nat} {P : PS} {A : Ad} {C : Chunk} {j : Nat} (hj : j < 20) (k : Own O h (C :: (psubs P A ++ R))) : Own O h (psub P A j :: C :: ((psubs P A).eraseIdx j ++ R)) := Own.out (rmap_get _ hj) k
set_option maxHeartbeats 4000000 in
theorem get_calls {O : Old} {h : AHeap} {R : List Chunk} {b s c : Nat} {P : PS} (k : Own O h (pairc b P :: R)) (mi : MI (P.o s) (P.i s)) (hs : s < 2) (hc : c < 4) (n : Int) (hp : ∃ t, P.wr ((1 - s) * 4 + c) = P.rd (s * 4 + c) ++ (mread (P.i s) c n).1 ++ t) (hl : (P.wr ((1 - s) * 4 + c)).length ≤ 1000000000) :
    ACalls Try.prog 30 #[ptr b, .int .i64 s, .int .i64 c, .int .i64 n] h fun r h' => r = .bool true ∧ Own O h' (pairc b (pget P s c n) :: R) := by
  refine ACalls.of_awp (args := [ptr b, .int .i64 s, .int .i64 c, .int .i64 n]) (n := 68) Try.func30 rfl rfl (by show 4 ≤ 68; omega) ?_
  obtain ⟨A, kt⟩ := pairc_iff.1 k
  obtain ⟨t, hp⟩ := hp
  obtain ⟨bs, hbs⟩ : ∃ bs, bs = (mread (P.i s) c n).1 := ⟨_, rfl⟩
  obtain ⟨i2, hi2⟩ : ∃ i2, i2 = (mread (P.i s) c n).2 := ⟨_, rfl⟩
  obtain ⟨s', hs'⟩ : ∃ s', s' = 1 - s := ⟨_, rfl⟩
  have hs2 : s' < 2 := by omega
  rw [← hbs, ← hs'] at hp
  rw [← hs'] at hl
  have hpl := congrArg List.length hp
  simp only [List.length_append] at hpl
  have pb := (pbs hs hc).b
  have pb2 := (pbs hs2 hc).b
  have hsi : (s : Int) < 2 := by omega
  have hsi2 : (s' : Int) < 2 := by omega
  have hci : (c : Int) < 4 := by omega
  have c0 := kt.obj
  have pl := p_len (P := P) (A := A)
  have gm := pc_m (P := P) (A := A) hs
  have gr := gc_rd (P := P) (A := A) hs hc
  have w1 := sub1 hs
  rw [← hs'] at w1
  (repeat' first
    | refine AWP.seq ?_
    | refine AWP.block ?_
    | (refine AWP.skip ?_; try dsimp only [thn, inBlk])
    | (refine AWP.exit ?_; try simp only [thn, inBlk, if_true, reduceIte, Nat.reduceEqDiff])
    | (refine AWP.ret ?_; try dsimp only [thn, inBlk])
    | (refine AWP.condT ?_ ?_; (focus (simp [go_sem]; done)))
    | (refine AWP.condF ?_ ?_; (focus (simp [go_sem]; done)))
    | (apply AWP.rE; (focus (simp [go_sem]; exact ⟨rfl, rfl⟩)); try dsimp only [thn, inBlk])
    | (apply AWP.dE hmix [.n 0 [0], .n 1 [1], .n 2 [2], .n 3 [36], .n 4 [39], .n 5 [40, 37], .n 6 [41, 38], .n 7 [42], .n 8 [0], .n 9 [1], .n 10 [45], .n 11 [2], .n 12 [44], .n 13 [48], .n 14 [49, 46], .n 15 [50, 47], .n 16 [51], .n 17 [43], .n 18 [52]]; (focus kernel_rfl); (focus (simp [go_sem]; exact ⟨rfl, rfl⟩)); try dsimp only [thn, inBlk])
    | (apply AWP.dE hmix [.n 0 [9], .n 1 [53], .n 2 [10], .n 3 [55], .n 4 [54, 56], .n 5 [57], .n 6 [9, 58], .n 7 [59, 58], .n 8 [10, 58], .n 9 [9, 58], .n 10 [62, 58], .n 11 [61, 63, 58], .n 12 [64, 58], .n 13 [60, 65, 58], .n 14 [58, 66], .n 15 [67]]; (focus kernel_rfl); (focus (simp [go_sem]; exact ⟨rfl, rfl⟩)); try dsimp only [thn, inBlk])
    | fail)
  refine AWP.draw hmix [.n 0 [0], .n 1 [1], .n 2 [2], .n 3 [0], .n 4 [1], .n 5 [2], .n 6 [14], .n 7 [17], .n 8 [18, 15], .n 9 [19, 16], .n 10 [20], .n 11 [0], .n 12 [1], .n 13 [22], .n 14 [24], .n 15 [25, 23], .n 16 [26], .n 17 [2], .n 18 [3], .n 21 [11], .n 22 [32], .n 23 [33, 12], .w 19 [27, 28, 29] [10], .w 20 [21, 30] [], .n 24 [34, 13], .w 25 [35, 31] []] (by kernel_rfl) ?_
  refine awpD_callR 22 (by rfl) (by rfl) (by simp [go_sem, c0, pl, gm, gr, pb, hsi, hci]; exact ⟨rfl, rfl, rfl⟩) (by rfl) (by rfl) (by simp [go_sem]) (by simp [go_sem, c0, pl, gm, gr, pb, hsi, hci]; exact ⟨rfl, rfl⟩) (by kernel_rfl) ?_
  refine (read_calls (po_outM hs kt) mi c n).mono ?_
  rw [← hbs, ← hi2]
  rintro r h2 k2
  obtain ⟨ra, rc, rfl⟩ := k2.os_val
  have k3 := po_inM2 hs (P.o s) i2 k2.p2
  rw [up_self] at k3
  obtain ⟨P1, hP1⟩ : ∃ P1 : PS, P1 = { P with i := up P.i s i2 } := ⟨_, rfl⟩
  have k3 : Own O h2 (cell b (prow P1 A) :: (psubs P1 A ++ (ob 5 (.slice ra bs.length rc) bs :: R))) := by rw [hP1]; exact k3
  have hpc : pcells P1 A = pcells P A := by rw [hP1]; exact pcells_oi P A P.o _
  have c3 : h2.obj b = some (.row (pcells P A) 58 28 true false) := by rw [← hpc]; exact k3.obj
  refine ⟨by simp [still, go_sem, c3, pl, gm, gr, pb, hsi, hci], ?_⟩
  have k4 := po_out (j := 12 + (s * 4 + c)) (by omega) k3
  rw [ps_rd (by omega)] at k4
  have hrd : P1.rd = P.rd := by rw [hP1]
  rw [hrd] at k4
  obtain ⟨a5, c5, h5, e5, k5⟩ := k4.appB (P := Try.prog) (t := 28) (xt := 28) Try.underlying28 tsz5 tby5 tz5 nI28 k4.tail.tail.rest.ob_bytes.src (by omega)
  have d5 : h5.obj b = some (.row (pcells P A) 58 28 true false) := by rw [← hpc]; exact k5.tail.obj
  refine awpD_writeR 0 (by rfl) (by rfl) (by simp [go_sem, c3, pl, gm, gr, pb, hsi, hci, e5, d5]; exact ⟨rfl, rfl, rfl⟩) (by rfl) (by rfl) (by simp [go_sem]) (by simp [go_sem, c3, pl, gm, gr, pb, hsi, hci, e5, d5]; exact ⟨rfl, rfl⟩) (by simp [still, go_sem, c3, pl, gm, gr, pb, hsi, hci, e5, d5]) ?_
  obtain ⟨P2, hP2⟩ : ∃ P2 : PS, P2 = { P1 with rd := up P1.rd (s * 4 + c) (P.rd (s * 4 + c) ++ bs) } := ⟨_, rfl⟩
  obtain ⟨A2, hA2⟩ : ∃ A2 : Ad, A2 = { A with pr := up A.pr (s * 4 + c) (a5, c5) } := ⟨_, rfl⟩
  have hlen : (P.rd (s * 4 + c)).length + bs.length = (P.rd (s * 4 + c) ++ bs).length := by simp
  have e6 : (pcells P A).set (12 + s * 4 + c) (.slice a5 ((P.rd (s * 4 + c)).length + bs.length) c5) = pcells P2 A2 := by
    rw [Nat.add_assoc, ← hpc, pset_rd (by omega) (P.rd (s * 4 + c) ++ bs) hlen, hP2, hA2]
  have k6 := k5.b1.set (prow P2 A2)
  have k7 : Own O (h5.set b (prow P2 A2)) (cell b (prow P2 A2) :: (psubs P2 A2 ++ (ob 5 (.slice ra bs.length rc) bs :: R))) := by
    refine po_in (P := P1) (A := A) (j := 12 + (s * 4 + c)) (by omega) ?_ ?_
    rotate_left
    · rw [ps_rd (by omega)]
      have e1 : P2.rd (s * 4 + c) = P.rd (s * 4 + c) ++ bs := by rw [hP2]; exact up_same _ _ _
      have e2 : A2.pr (s * 4 + c) = (a5, c5) := by rw [hA2]; exact up_same _ _ _
      rw [e1, e2, ← hlen]
      exact k6.b1
    · rw [hP2, hA2]; exact pk_rd (by omega) _ _
  refine awpD_writeR 1 (by rfl) (by rfl) (by simp [go_sem, c3, pl, gm, gr, pb, hsi, hci, d5, e6]; exact ⟨rfl, rfl, rfl⟩) (by rfl) (by rfl) (by simp [go_sem]) (by simp [go_sem, c3, pl, gm, gr, pb, hsi, hci, d5, e6]; exact ⟨rfl, rfl⟩) (by simp [still, go_sem, c3, pl, gm, gr, pb, hsi, hci, d5, e6]) ?_
  refine awpD_restR (by rfl) (by simp [go_sem]; exact ⟨rfl, rfl, rfl⟩) ?_; try dsimp only [thn, inBlk]
  have c7 := k7.obj
  have pl2 := p_len (P := P2) (A := A2)
  have gr2 := gc_rd (P := P2) (A := A2) hs hc
  have gw2 := gc_wr (P := P2) (A := A2) hs2 hc
  have e8 : P2.rd (s * 4 + c) = P.rd (s * 4 + c) ++ bs := by rw [hP2]; exact up_same _ _ _
  have e9 : P2.wr = P.wr := by rw [hP2, hP1]
  rw [e8] at gr2
  rw [e9] at gw2
  have b1 : Bytes (h5.set b (prow P2 A2)) (.slice (A2.pr (s * 4 + c)).1 (P.rd (s * 4 + c) ++ bs).length (A2.pr (s * 4 + c)).2) (P.rd (s * 4 + c) ++ bs) := by
    have := po_out (j := 12 + (s * 4 + c)) (by omega) k7
    rw [ps_rd (by omega), e8] at this
    exact this.ob_bytes
  have b2 : Bytes (h5.set b (prow P2 A2)) (.slice (A2.pw (s' * 4 + c)).1 (P.wr (s' * 4 + c)).length (A2.pw (s' * 4 + c)).2) (P.wr (s' * 4 + c)) := by
    have := po_out (j := 4 + (s' * 4 + c)) (by omega) k7
    rw [ps_wr (by omega), e9] at this
    exact this.ob_bytes
  generalize hG : P.rd (s * 4 + c) ++ bs = G at *
  generalize hWw : P.wr (s' * 4 + c) = W at *
  generalize (A2.pr (s * 4 + c)) = pg_ at *
  generalize (A2.pw (s' * 4 + c)) = pw_ at *
  have s1 := b1.str (P := Try.prog) (t := 28) (e := 5) (u := 9) Try.underlying28 Try.underlying5 Try.underlying9
  have hGl : G.length ≤ W.length := by rw [hp]; simp
  have hGl' : (G.length : Int) ≤ (W.length : Int) := by omega
  obtain ⟨p1, p2⟩ := b2.piece (P := Try.prog) (t := 28) (e := 5) Try.underlying28 tsz5 (lo := 0) (hi := G.length) (by omega) hGl (l := none) (u := some (.int .i64 (G.length : Int))) (.inl ⟨rfl, rfl⟩) (.inr ⟨.i64, rfl⟩)
  have tk : W.take G.length = G := by rw [hp]; simp
  rw [List.drop_zero, tk] at p2
  have s2 := p2.str (P := Try.prog) (t := 28) (e := 5) (u := 9) Try.underlying28 Try.underlying5 Try.underlying9
  obtain ⟨qa, qc, hq⟩ := p2.val
  rw [hq] at p1 s2
  have hfin : Own O (h5.set b (prow P2 A2)) (pairc b (pget P s c n) :: R) := by
    refine pairc_iff.2 ⟨A2, ?_⟩
    have eP : pget P s c n = P2 := by rw [pget, ← hbs, ← hi2, hG, hP2, hP1]
    rw [eP]
    have := k7.perm (((List.perm_middle (l₁ := psubs P2 A2)).cons _))
    exact this.d1
  (repeat' first
    | refine AWP.seq ?_
    | refine AWP.block ?_
    | (refine AWP.skip ?_; try dsimp only [thn, inBlk])
    | (refine AWP.exit ?_; try simp only [thn, inBlk, if_true, reduceIte, Nat.reduceEqDiff])
    | (refine AWP.ret ?_; try dsimp only [thn, inBlk])
    | (refine AWP.condT ?_ ?_; (focus (simp [go_sem, c7, pl2, gr2, gw2, pb, pb2, hsi, hsi2, hci, w1, hGl', s1, p1, s2]; done)))
    | (refine AWP.condF ?_ ?_; (focus (simp [go_sem, c7, pl2, gr2, gw2, pb, pb2, hsi, hsi2, hci, w1, hGl', s1, p1, s2]; done)))
    | (apply AWP.rE; (focus (simp [go_sem, c7, pl2, gr2, gw2, pb, pb2, hsi, hsi2, hci, w1, hGl', s1, p1, s2]; exact ⟨rfl, rfl⟩)); try dsimp only [thn, inBlk])
    | (apply AWP.dE hmix [.n 0 [0], .n 1 [1], .n 2 [2], .n 3 [36], .n 4 [39], .n 5 [40, 37], .n 6 [41, 38], .n 7 [42], .n 8 [0], .n 9 [1], .n 10 [45], .n 11 [2], .n 12 [44], .n 13 [48], .n 14 [49, 46], .n 15 [50, 47], .n 16 [51], .n 17 [43], .n 18 [52]]; (focus kernel_rfl); (focus (simp [go_sem, c7, pl2, gr2, gw2, pb, pb2, hsi, hsi2, hci, w1, hGl', s1, p1, s2]; exact ⟨rfl, rfl⟩)); try dsimp only [thn, inBlk])
    | (apply AWP.dE hmix [.n 0 [9], .n 1 [53], .n 2 [10], .n 3 [55], .n 4 [54, 56], .n 5 [57], .n 6 [9, 58], .n 7 [59, 58], .n 8 [10, 58], .n 9 [9, 58], .n 10 [62, 58], .n 11 [61, 63, 58], .n 12 [64, 58], .n 13 [60, 65, 58], .n 14 [58, 66], .n 15 [67]]; (focus kernel_rfl); (focus (simp [go_sem, c7, pl2, gr2, gw2, pb, pb2, hsi, hsi2, hci, w1, hGl', s1, p1, s2]; exact ⟨rfl, rfl⟩)); try dsimp only [thn, inBlk])
    | fail)
  simp [bodyQ, thn, inBlk, resA, resV, go_sem]
  exact hfin
end L18
