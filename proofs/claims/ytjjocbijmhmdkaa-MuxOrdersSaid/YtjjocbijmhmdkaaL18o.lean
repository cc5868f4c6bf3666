import Derived.Test.YtjjocbijmhmdkaaL18n
open Go Ab Go.Proofs
namespace L18
set_option autoImplicit false
set_option linter.unusedSimpArgs false
set_option linter.unusedVariables false
attribute [local irreducible] mcells

/-! ### Frames on the heap, opened -/
abbrev PAs := List PA
def frt (v : Value) (fs : List Fr) (ac : PAs) : List Chunk := os 30 2 v fs.length (rcells pre fs ac).flatten :: rbods 5 fs ac
section
variable {O : Old} {h : AHeap} {R : List Chunk} {v : Value} {fs : List Fr} {ac : PAs}
def frc (v : Value) (fs : List Fr) (ac : PAs) : Chunk := star (frt v fs ac)
theorem frs_iff : Own O h (frs v fs :: R) ↔ ∃ ac : PAs, ac.length = fs.length ∧ Own O h (frc v fs ac :: R) := by
  simp only [frc, Own.star_iff]; exact brecs_iff
theorem fr_at (k : Own O h (frc v fs ac :: R)) (ha : ac.length = fs.length) {j : Nat} {f : Fr} {p : PA} (hf : fs[j]? = some f) (hp : ac[j]? = some p) {kd : IntKind} :
    ∃ i off c e' sz' ti ro, indexAddrP Try.prog 39 v (.int kd j) = some (.pointer (some ⟨i, off, none⟩)) ∧ h.obj i = some (.row c e' sz' ti ro) ∧ off + 2 ≤ c.length ∧ (c.drop off).take 2 = [.int .i64 f.1, .slice p.1 f.2.length p.2] ∧
      c[off]? = some (.int .i64 f.1) ∧ c[off + 1]? = some (.slice p.1 f.2.length p.2) := by
  have k := Own.star_iff.1 k
  have sl : Sl 2 h v fs.length (rcells pre fs ac).flatten := Own.os_sl (R := rbods 5 fs ac ++ R) k
  obtain ⟨hj, rfl⟩ := List.getElem?_eq_some_iff.1 hf
  obtain ⟨hac, rfl⟩ := List.getElem?_eq_some_iff.1 hp
  obtain ⟨i, off, c, e', sz', ti, ro, q1, q2, q3, q4, q5⟩ := sl.record (P := Try.prog) Try.underlying39 tsz30 (rcells_all (pre := pre) (fun _ => rfl) ac) (rcells_length ha) hj (kd := kd)
  have e1 : (rcells pre fs ac)[j]'(by rw [rcells_length ha]; exact hj) = [.int .i64 fs[j].1, .slice ac[j].1 fs[j].2.length ac[j].2] := by simp [rcells, rec1, pre]
  rw [e1] at q4 q5
  have g0 : c[off + 0]? = _ := q5 0 (.int .i64 fs[j].1) rfl
  have g1 : c[off + 1]? = _ := q5 1 (.slice ac[j].1 fs[j].2.length ac[j].2) rfl
  rw [Nat.add_zero] at g0
  exact ⟨i, off, c, e', sz', ti, ro, q1, q2, q3, q4, g0, g1⟩
theorem fr_body (k : Own O h (frc v fs ac :: R)) {j : Nat} {f : Fr} {p : PA} (hf : fs[j]? = some f) (hp : ac[j]? = some p) : Bytes h (.slice p.1 f.2.length p.2) f.2 := by
  have k := Own.star_iff.1 k
  have k2 : Own O h (rbods 5 fs ac ++ R) := Own.tail (A := os 30 2 v fs.length (rcells pre fs ac).flatten) k
  have : (rbods 5 fs ac)[j]? = some (ob 5 (.slice p.1 f.2.length p.2) f.2) := by simp [rbods, List.getElem?_zipWith, hf, hp]
  exact (k2.mem this).ob_bytes
end
theorem speaks_calls {O : Old} {h : AHeap} {R : List Chunk} (k : Own O h R) : ACalls Try.prog 7 #[] h fun r h' => r = .bool true ∧ Own O h' R := by
  refine ACalls.of_awp (args := []) (n := 78) Try.func7 rfl rfl (by show 0 ≤ 78; omega) ?_
  (repeat' first
    | refine AWP.seq ?_
    | refine AWP.block ?_
    | (refine AWP.skip ?_; try dsimp only [thn, inBlk])
    | (refine AWP.exit ?_; try simp only [thn, inBlk, if_true, reduceIte, Nat.reduceEqDiff])
    | (refine AWP.ret ?_; try dsimp only [thn, inBlk])
    | (refine AWP.condT ?_ ?_; (focus (simp [go_sem]; done)))
    | (refine AWP.condF ?_ ?_; (focus (simp [go_sem]; done)))
    | (apply AWP.rE; (focus (simp [go_sem]; exact ⟨rfl, rfl⟩)); try dsimp only [thn, inBlk])
    | fail)
  refine AWP.callE (by simp [go_sem]; exact ⟨rfl, rfl, rfl, rfl, rfl⟩) (by kernel_rfl) ?_
  refine (new_calls k).mono ?_
  rintro r h1 ⟨a, rfl, k1⟩
  refine awpL_toCall (by simp [go_sem]; exact ⟨rfl, rfl, rfl, rfl, rfl⟩) (by kernel_rfl) ?_
  refine (new_calls k1).mono ?_
  rintro r h2 ⟨b, rfl, k2⟩
  refine awpL_restE (by simp [go_sem]; exact ⟨rfl, rfl⟩) ?_; try dsimp only [thn, inBlk]
  (repeat' first
    | refine AWP.seq ?_
    | refine AWP.block ?_
    | (refine AWP.skip ?_; try dsimp only [thn, inBlk])
    | (refine AWP.exit ?_; try simp only [thn, inBlk, if_true, reduceIte, Nat.reduceEqDiff])
    | (refine AWP.ret ?_; try dsimp only [thn, inBlk])
    | (refine AWP.condT ?_ ?_; (focus (simp [go_sem]; done)))
    | (refine AWP.condF ?_ ?_; (focus (simp [go_sem]; done)))
    | (apply AWP.rE; (focus (simp [go_sem]; exact ⟨rfl, rfl⟩)); try dsimp only [thn, inBlk])
    | fail)
  refine AWP.callE (by simp [go_sem]; exact ⟨rfl, rfl, rfl, rfl, rfl⟩) (by kernel_rfl) ?_
  refine (text_calls k2 (n := 1500) (fr := 0) (by omega) (by omega)).mono ?_
  rintro r h3 ⟨ta, tc, rfl, k3⟩
  refine awpL_toCall (by simp [go_sem]; exact ⟨rfl, rfl, rfl, rfl, rfl⟩) (by kernel_rfl) ?_
  obtain ⟨w, hw⟩ : ∃ w, w = txt 1500 0 := ⟨_, rfl⟩
  have hwl : w.length = 1500 := by rw [hw, txt_len]
  rw [← hw] at k3
  refine (write_calls (d := w) k3.b2 MI.new 0 (fun hh kk => kk.ob_bytes) (by omega)).mono ?_
  rw [sp1 hwl]
  rintro r h4 ⟨rfl, k4⟩
  refine awpL_restE (by simp [go_sem]; exact ⟨rfl, rfl⟩) ?_; try dsimp only [thn, inBlk]
  (repeat' first
    | refine AWP.seq ?_
    | refine AWP.block ?_
    | (refine AWP.skip ?_; try dsimp only [thn, inBlk])
    | (refine AWP.exit ?_; try simp only [thn, inBlk, if_true, reduceIte, Nat.reduceEqDiff])
    | (refine AWP.ret ?_; try dsimp only [thn, inBlk])
    | (refine AWP.condT ?_ ?_; (focus (simp [go_sem]; done)))
    | (refine AWP.condF ?_ ?_; (focus (simp [go_sem]; done)))
    | (apply AWP.rE; (focus (simp [go_sem]; exact ⟨rfl, rfl⟩)); try dsimp only [thn, inBlk])
    | fail)
  refine AWP.callE (by simp [go_sem]; exact ⟨rfl, rfl, rfl, rfl, rfl⟩) (by kernel_rfl) ?_
  have mi1 := MI.new.write 0 w
  rw [sp1 hwl] at mi1
  refine (out_calls k4 mi1).mono ?_
  rw [sp2 hwl]
  rintro r h5 ⟨fa, fc, rfl, k5⟩
  refine awpL_restE (by simp [go_sem]; exact ⟨rfl, rfl⟩) ?_; try dsimp only [thn, inBlk]
  dsimp only at k5 ⊢
  obtain ⟨b1, hb1⟩ : ∃ b1, b1 = w.take 512 := ⟨_, rfl⟩
  obtain ⟨b2, hb2⟩ : ∃ b2, b2 = (w.drop 512).take 512 := ⟨_, rfl⟩
  have l1 : b1.length = 512 := by rw [hb1]; simp; omega
  have l2 : b2.length = 512 := by rw [hb2]; simp; omega
  have mi2 : MI [⟨(w.drop 512).drop 512, 0, false, false⟩, z0, z0, z0] (zi 4) := by
    have := mi1.out
    rw [sp2 hwl] at this
    exact this
  have l3 : ((w.drop 512).drop 512).length = 476 := by simp; omega
  generalize (w.drop 512).drop 512 = w2 at *
  rw [← hb1, ← hb2] at k5
  obtain ⟨ac, ha, k6⟩ := frs_iff.1 k5
  match ac, ha with
  | [p, q], ha =>
  obtain ⟨i0, o0, c0, e0, s0, t0, ro0, p0, q0, r0, u0, v0, x0⟩ := fr_at k6 ha (j := 0) rfl rfl (kd := .i64)
  obtain ⟨i1, o1, c1, e1, s1, t1, ro1, p1, q1, r1, u1, v1, x1⟩ := fr_at k6 ha (j := 1) rfl rfl (kd := .i64)
  have p0' : indexAddrP Try.prog 39 (.slice fa 2 fc) (.int .i64 0) = some (.pointer (some ⟨i0, o0, none⟩)) := p0
  have p1' : indexAddrP Try.prog 39 (.slice fa 2 fc) (.int .i64 1) = some (.pointer (some ⟨i1, o1, none⟩)) := p1
  rw [l1] at x0 u0
  rw [l2] at x1 u1
  simp only [List.length_cons, List.length_nil, Nat.zero_add, Nat.reduceAdd] at k6
  have r0' : o0 + 1 + 1 ≤ c0.length := by omega
  have r1' : o1 + 1 + 1 ≤ c1.length := by omega
  (repeat' first
    | refine AWP.seq ?_
    | refine AWP.block ?_
    | (refine AWP.skip ?_; try dsimp only [thn, inBlk])
    | (refine AWP.exit ?_; try simp only [thn, inBlk, if_true, reduceIte, Nat.reduceEqDiff])
    | (refine AWP.ret ?_; try dsimp only [thn, inBlk])
    | (refine AWP.condT ?_ ?_; (focus (simp [go_sem, p0', q0, r0', x0, p1', q1, r1', x1, u0, v0, u1, v1, r0, r1]; done)))
    | (refine AWP.condF ?_ ?_; (focus (simp [go_sem, p0', q0, r0', x0, p1', q1, r1', x1, u0, v0, u1, v1, r0, r1]; done)))
    | (apply AWP.rE; (focus (simp [go_sem, p0', q0, r0', x0, p1', q1, r1', x1, u0, v0, u1, v1, r0, r1]; exact ⟨rfl, rfl⟩)); try dsimp only [thn, inBlk])
    | fail)
  refine AWP.callE (by simp [go_sem, p0', q0, r0', x0, p1', q1, r1', x1, u0, v0, u1, v1, r0, r1]; exact ⟨rfl, rfl, rfl, rfl, rfl⟩) (by kernel_rfl) ?_
  have T1 := take_calls (0, b1) k6.b3 MI.new (fun hh kk => fr_body kk (j := 0) rfl rfl) (by simp [l1])
  have mi3 := MI.new.take (0, b1)
  rw [sp3 l1] at T1 mi3
  simp only [l1] at T1
  refine T1.mono ?_
  rintro r h6 ⟨_, k7⟩
  refine awpL_restE (by simp [go_sem]; exact ⟨rfl, rfl⟩) ?_; try dsimp only [thn, inBlk]
  obtain ⟨i2, o2, c2, e2, s2, t2, ro2, p2, q2, r2, u2, v2, x2⟩ := fr_at k7.b1 ha (j := 1) rfl rfl (kd := .i64)
  cases p1.symm.trans p2
  rw [l2] at u2
  (repeat' first
    | refine AWP.seq ?_
    | refine AWP.block ?_
    | (refine AWP.skip ?_; try dsimp only [thn, inBlk])
    | (refine AWP.exit ?_; try simp only [thn, inBlk, if_true, reduceIte, Nat.reduceEqDiff])
    | (refine AWP.ret ?_; try dsimp only [thn, inBlk])
    | (refine AWP.condT ?_ ?_; (focus (simp [go_sem, p1', q2, r2, u2]; done)))
    | (refine AWP.condF ?_ ?_; (focus (simp [go_sem, p1', q2, r2, u2]; done)))
    | (apply AWP.rE; (focus (simp [go_sem, p1', q2, r2, u2]; exact ⟨rfl, rfl⟩)); try dsimp only [thn, inBlk])
    | fail)
  refine AWP.callE (by simp [go_sem, p1', q2, r2, u2]; exact ⟨rfl, rfl, rfl, rfl, rfl⟩) (by kernel_rfl) ?_
  have T2 := take_calls (0, b2) k7 mi3 (fun hh kk => fr_body kk (j := 1) rfl rfl) (by simp [l2])
  have mi4 := mi3.take (0, b2)
  rw [sp4 l1 l2] at T2 mi4
  simp only [l2] at T2
  refine T2.mono ?_
  rintro r h7 ⟨_, k8⟩
  refine awpL_restE (by simp [go_sem]; exact ⟨rfl, rfl⟩) ?_; try dsimp only [thn, inBlk]
  (repeat' first
    | refine AWP.seq ?_
    | refine AWP.block ?_
    | (refine AWP.skip ?_; try dsimp only [thn, inBlk])
    | (refine AWP.exit ?_; try simp only [thn, inBlk, if_true, reduceIte, Nat.reduceEqDiff])
    | (refine AWP.ret ?_; try dsimp only [thn, inBlk])
    | (refine AWP.condT ?_ ?_; (focus (simp [go_sem]; done)))
    | (refine AWP.condF ?_ ?_; (focus (simp [go_sem]; done)))
    | (apply AWP.rE; (focus (simp [go_sem]; exact ⟨rfl, rfl⟩)); try dsimp only [thn, inBlk])
    | fail)
  refine AWP.callE (by simp [go_sem]; exact ⟨rfl, rfl, rfl, rfl, rfl⟩) (by kernel_rfl) ?_
  refine (read_calls k8 mi4 0 2000).mono ?_
  rintro r h8 k9
  have mi5 := mi4.read 0 2000
  rw [sp5 (by simp [l1, l2])] at k9 mi5
  have k9 := k9.tail
  refine awpL_restE (by simp [go_sem]; exact ⟨rfl, rfl⟩) ?_; try dsimp only [thn, inBlk]
  (repeat' first
    | refine AWP.seq ?_
    | refine AWP.block ?_
    | (refine AWP.skip ?_; try dsimp only [thn, inBlk])
    | (refine AWP.exit ?_; try simp only [thn, inBlk, if_true, reduceIte, Nat.reduceEqDiff])
    | (refine AWP.ret ?_; try dsimp only [thn, inBlk])
    | (refine AWP.condT ?_ ?_; (focus (simp [go_sem]; done)))
    | (refine AWP.condF ?_ ?_; (focus (simp [go_sem]; done)))
    | (apply AWP.rE; (focus (simp [go_sem]; exact ⟨rfl, rfl⟩)); try dsimp only [thn, inBlk])
    | fail)
  refine AWP.callE (by simp [go_sem]; exact ⟨rfl, rfl, rfl, rfl, rfl⟩) (by kernel_rfl) ?_
  refine (out_calls k9 mi5).mono ?_
  rw [sp6]
  rintro r h9 ⟨ga, gc, rfl, k10⟩
  refine awpL_restE (by simp [go_sem]; exact ⟨rfl, rfl⟩) ?_; try dsimp only [thn, inBlk]
  dsimp only at k10 ⊢
  obtain ⟨ac2, ha2, k11⟩ := frs_iff.1 k10
  match ac2, ha2 with
  | [p3], ha2 =>
  simp only [List.length_cons, List.length_nil, Nat.zero_add, Nat.reduceAdd] at k11
  (repeat' first
    | refine AWP.seq ?_
    | refine AWP.block ?_
    | (refine AWP.skip ?_; try dsimp only [thn, inBlk])
    | (refine AWP.exit ?_; try simp only [thn, inBlk, if_true, reduceIte, Nat.reduceEqDiff])
    | (refine AWP.ret ?_; try dsimp only [thn, inBlk])
    | (refine AWP.condT ?_ ?_; (focus (simp [go_sem]; done)))
    | (refine AWP.condF ?_ ?_; (focus (simp [go_sem]; done)))
    | (apply AWP.rE; (focus (simp [go_sem]; exact ⟨rfl, rfl⟩)); try dsimp only [thn, inBlk])
    | fail)
  refine AWP.loopR [1, 55, 56, 57] (fun m s h' => (m = 1 ∧ s = ⟨78, [(1, ptr a), (55, .slice ga 1 gc), (56, .int .i64 1), (57, .int .i64 0)]⟩ ∧ Own O h' (mux a [⟨w2, 0, false, false⟩, z0, z0, z0] (zi 4) :: frc (.slice ga 1 gc) [toldF 1 0 1024] [p3] :: R)) ∨
    (m = 0 ∧ s = ⟨78, [(1, ptr a), (55, .slice ga 1 gc), (56, .int .i64 1), (57, .int .i64 1)]⟩ ∧ Own O h' (mux a [⟨w2, 1024, false, false⟩, z0, z0, z0] (zi 4) :: R))) ?_ ?_
  · exact ⟨1, .inl ⟨rfl, by simp [go_sem], by (refine Own.sbl ?_ (k11); repeat' first | exact Sbl.nil _ | with_reducible exact Sbl.rfl _ | (apply Sbl.cons) | (apply Sbl.skip) | with_reducible exact Fnd.head _ _ | (apply Fnd.tail))⟩⟩
  rintro m s h10 (⟨rfl, rfl, kt⟩ | ⟨rfl, rfl, kt⟩)
  · obtain ⟨i4, o4, c4, e4, s4, t4, ro4, p4, q4, r4, u4, v4, x4⟩ := fr_at kt.b1 ha2 (j := 0) rfl rfl (kd := .i64)
    have p4' : indexAddrP Try.prog 39 (.slice ga 1 gc) (.int .i64 0) = some (.pointer (some ⟨i4, o4, none⟩)) := p4
    have u4' : (c4.drop o4).take 2 = [.int .i64 4, .slice p3.1 4 p3.2] := u4
    have kp := kt.push (.row [.int .i64 4, .slice p3.1 4 p3.2] 30 2 true false)
    have cp := kp.obj
    (repeat' first
      | refine AWP.seq ?_
      | refine AWP.block ?_
      | (refine AWP.skip ?_; try dsimp only [thn, inBlk])
      | (refine AWP.exit ?_; try simp only [thn, inBlk, if_true, reduceIte, Nat.reduceEqDiff])
      | (refine AWP.ret ?_; try dsimp only [thn, inBlk])
      | (refine AWP.condT ?_ ?_; (focus (simp [go_sem, p4', q4, r4, u4']; done)))
      | (refine AWP.condF ?_ ?_; (focus (simp [go_sem, p4', q4, r4, u4']; done)))
      | (apply AWP.rE; (focus (simp [go_sem, p4', q4, r4, u4']; exact ⟨rfl, rfl⟩)); try dsimp only [thn, inBlk])
      | fail)
    refine AWP.callE (by simp [go_sem, cp]; exact ⟨rfl, rfl, rfl, rfl, rfl⟩) (by kernel_rfl) ?_
    have T3 := take_calls (toldF 1 0 1024) kp.b1 mi2 (fun hh kk => fr_body kk.tail (j := 0) rfl rfl) (by simp [toldF])
    rw [sp7] at T3
    refine T3.mono ?_
    rintro r h11 ⟨_, k12⟩
    refine awpL_restE (by simp [go_sem]; exact ⟨rfl, rfl⟩) ?_; try dsimp only [thn, inBlk]
    (repeat' first
      | refine AWP.seq ?_
      | refine AWP.block ?_
      | (refine AWP.skip ?_; try dsimp only [thn, inBlk])
      | (refine AWP.exit ?_; try simp only [thn, inBlk, if_true, reduceIte, Nat.reduceEqDiff])
      | (refine AWP.ret ?_; try dsimp only [thn, inBlk])
      | (refine AWP.condT ?_ ?_; (focus (simp [go_sem]; done)))
      | (refine AWP.condF ?_ ?_; (focus (simp [go_sem]; done)))
      | (apply AWP.rE; (focus (simp [go_sem]; exact ⟨rfl, rfl⟩)); try dsimp only [thn, inBlk])
      | fail)
    exact ⟨0, by omega, .inr ⟨rfl, by simp [go_sem, show IntKind.i64.wrap 1 = 1 from rfl], k12.d2.d1⟩⟩
  · (repeat' first
      | refine AWP.seq ?_
      | refine AWP.block ?_
      | (refine AWP.skip ?_; try dsimp only [thn, inBlk])
      | (refine AWP.exit ?_; try simp only [thn, inBlk, if_true, reduceIte, Nat.reduceEqDiff])
      | (refine AWP.ret ?_; try dsimp only [thn, inBlk])
      | (refine AWP.condT ?_ ?_; (focus (simp [go_sem]; done)))
      | (refine AWP.condF ?_ ?_; (focus (simp [go_sem]; done)))
      | (apply AWP.rE; (focus (simp [go_sem]; exact ⟨rfl, rfl⟩)); try dsimp only [thn, inBlk])
      | fail)
    refine AWP.callE (by simp [go_sem]; exact ⟨rfl, rfl, rfl, rfl, rfl⟩) (by kernel_rfl) ?_
    have mi6 := mi2.take (toldF 1 0 1024)
    rw [sp7] at mi6
    refine (out_calls kt mi6).mono ?_
    rw [sp8 l3]
    rintro r h11 ⟨ea, ec, rfl, k13⟩
    refine awpL_restE (by simp [go_sem]; exact ⟨rfl, rfl⟩) ?_; try dsimp only [thn, inBlk]
    dsimp only at k13 ⊢
    obtain ⟨ac5, ha5, k14⟩ := frs_iff.1 k13
    match ac5, ha5 with
    | [p5], ha5 =>
    obtain ⟨i6, o6, c6, e6, s6, t6, ro6, p6, q6, r6, u6, v6, x6⟩ := fr_at k14 ha5 (j := 0) rfl rfl (kd := .i64)
    have p6' : indexAddrP Try.prog 39 (.slice ea 1 ec) (.int .i64 0) = some (.pointer (some ⟨i6, o6, none⟩)) := p6
    have l6 : (w2.take 476).length = 476 := by simp; omega
    rw [l6] at x6
    have r6' : o6 + 1 + 1 ≤ c6.length := by omega
    (repeat' first
      | refine AWP.seq ?_
      | refine AWP.block ?_
      | (refine AWP.skip ?_; try dsimp only [thn, inBlk])
      | (refine AWP.exit ?_; try simp only [thn, inBlk, if_true, reduceIte, Nat.reduceEqDiff])
      | (refine AWP.ret ?_; try dsimp only [thn, inBlk])
      | (refine AWP.condT ?_ ?_; (focus (simp [go_sem, p6', q6, r6', x6]; done)))
      | (refine AWP.condF ?_ ?_; (focus (simp [go_sem, p6', q6, r6', x6]; done)))
      | (apply AWP.rE; (focus (simp [go_sem, p6', q6, r6', x6]; exact ⟨rfl, rfl⟩)); try dsimp only [thn, inBlk])
      | fail)
    simp [bodyQ, thn, inBlk, resA, resV, go_sem]
    exact k14.tail.tail
end L18
