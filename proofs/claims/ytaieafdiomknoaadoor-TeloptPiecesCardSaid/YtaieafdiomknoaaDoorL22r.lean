import Derived.Test.YtaieafdiomknoaaDoorL22q
open Go Ab Go.Proofs
namespace L22
set_option autoImplicit false
set_option linter.unusedSimpArgs false
set_option linter.unusedVariables false

theorem authT_short {k o : Int} {bs : List UInt8} (h : bs.length < 3) : authT k o bs = (0, false, [], 21) := by
  unfold authT
  split
  · split
    all_goals first | rfl | (simp at h; done) | (simp at h; omega)
  · rfl
theorem authT_mid {k o : Int} {x y z : UInt8} {r : List UInt8} (h : y ≠ 2 ∨ z ≠ 2) : authT k o (x :: y :: z :: r) = (0, false, [], 21) := by
  unfold authT
  split
  · split
    all_goals first | rfl | (rename_i e; cases e; simp at h)
  · rfl
theorem authT_one {x : UInt8} {r : List UInt8} (hx : x = 1) (hr : r ≠ []) : authT 3 37 (x :: 2 :: 2 :: r) = (0, false, [], 21) := by
  subst hx
  unfold authT
  rw [if_pos ⟨rfl, rfl⟩]
  split
  all_goals first | rfl | (rename_i e; cases e; done) | (rename_i e; cases e; exact absurd rfl hr)
theorem authT_big {x : UInt8} {r : List UInt8} (hx : 2 < x.toNat) : authT 3 37 (x :: 2 :: 2 :: r) = (0, false, [], 21) := by
  unfold authT
  rw [if_pos ⟨rfl, rfl⟩]
  split
  all_goals first | rfl | (rename_i e; cases e; exact absurd hx (by decide))
theorem authT_end {x : UInt8} (hx : x ≠ 1) : authT 3 37 [x, 2, 2] = (0, false, [], 21) := by
  unfold authT
  rw [if_pos ⟨rfl, rfl⟩]
  split
  all_goals first | rfl | (rename_i e; cases e; exact absurd rfl hx) | (rename_i e; cases e; done)
theorem authT_zero {w : UInt8} {r : List UInt8} : authT 3 37 (0 :: 2 :: 2 :: w :: r) = if w = 0 then (0, false, r, 0) else (0, false, [], 21) := by
  unfold authT
  rw [if_pos ⟨rfl, rfl⟩]
  split
  all_goals first | (rename_i e; cases e; done) | (rename_i e; cases e; simp; done) | skip
  rename_i h1 h2 h3 h4
  rw [if_neg (fun hw => h2 r (by rw [hw]))]
theorem authT_two {w : UInt8} {r : List UInt8} : authT 3 37 (2 :: 2 :: 2 :: w :: r) = if w = 1 then (2, false, r, 0) else if w = 2 then (2, true, r, 0) else (0, false, [], 21) := by
  unfold authT
  rw [if_pos ⟨rfl, rfl⟩]
  split
  all_goals first | (rename_i e; cases e; done) | (rename_i e; cases e; simp; done) | skip
  rename_i h1 h2 h3 h4
  rw [if_neg (fun hw => h3 r (by rw [hw])), if_neg (fun hw => h4 r (by rw [hw]))]

set_option maxHeartbeats 8000000 in
theorem refauth_calls {O : Old} {h : AHeap} {R : List Chunk} {d : Value} {bs : List UInt8} {kd v o : Int} (k : Own O h R) (hx : ∀ h, Own O h R → Bytes h d bs) (hm : bs.length ≤ 1000000) :
    ACalls Tryd.prog 18 #[tel kd v o d] h fun r h' => ∃ a cap, r = .tuple #[.int .i64 (authT kd o bs).1, .bool (authT kd o bs).2.1, .slice a (authT kd o bs).2.2.1.length cap, .bool ((authT kd o bs).2.2.2 == 0)] ∧ Own O h' (ob 5 (.slice a (authT kd o bs).2.2.1.length cap) (authT kd o bs).2.2.1 :: R) := by
  obtain ⟨da, dc, rfl⟩ := (hx h k).val
  refine ACalls.of_awp (args := [tel kd v o (.slice da bs.length dc)]) (n := 109) Tryd.func18 rfl rfl (by show 1 ≤ 109; omega) ?_
  have k1 := k.push (trow kd v o (.slice da bs.length dc))
  have c1 := k1.obj
  refine AWP.seq ?_
  (apply AWP.rE; (focus (simp [go_sem]; exact ⟨rfl, rfl⟩)); try dsimp only [thn, inBlk])
  generalize h.push (trow kd v o (.slice da bs.length dc)) = h1 at k1 c1 ⊢
  generalize h.next = tp at k1 c1 ⊢
  have k2 : Own O (h1.push (.row [] 5 1 true false)) (ob 5 (.slice (some ⟨h1.next, 0, none⟩) 0 0) [] :: cell tp (trow kd v o (.slice da bs.length dc)) :: R) := k1.fresh (e := 5) (bs := [])
  have hb := hx h1 k1.tail
  by_cases h3 : kd = 3
  rotate_left
  · have h3' : (kd != 3) = true := by simpa using h3
    have e : authT kd o bs = (0, false, [], 21) := by simp [authT, h3]
    (repeat' first
      | refine AWP.seq ?_
      | refine AWP.block ?_
      | (refine AWP.skip ?_; try dsimp only [thn, inBlk])
      | (refine AWP.exit ?_; try simp only [thn, inBlk, if_true, reduceIte, Nat.reduceEqDiff])
      | (refine AWP.ret ?_; try dsimp only [thn, inBlk])
      | (refine AWP.condT ?_ ?_; (focus (simp [go_sem, c1, h3']; done)))
      | (refine AWP.condF ?_ ?_; (focus (simp [go_sem, c1, h3']; done)))
      | (apply AWP.rE; (focus (simp [go_sem, c1, h3']; exact ⟨rfl, rfl⟩)); try dsimp only [thn, inBlk])
      | fail)
    simp [bodyQ, thn, inBlk, resA, resV, go_sem, e]
    exact ⟨_, _, ⟨rfl, rfl⟩, k2.d1⟩
  subst h3
  by_cases h37 : o = 37
  rotate_left
  · have h37' : (o != 37) = true := by simpa using h37
    have e : authT 3 o bs = (0, false, [], 21) := by simp [authT, h37]
    (repeat' first
      | refine AWP.seq ?_
      | refine AWP.block ?_
      | (refine AWP.skip ?_; try dsimp only [thn, inBlk])
      | (refine AWP.exit ?_; try simp only [thn, inBlk, if_true, reduceIte, Nat.reduceEqDiff])
      | (refine AWP.ret ?_; try dsimp only [thn, inBlk])
      | (refine AWP.condT ?_ ?_; (focus (simp [go_sem, c1, h37']; done)))
      | (refine AWP.condF ?_ ?_; (focus (simp [go_sem, c1, h37']; done)))
      | (apply AWP.rE; (focus (simp [go_sem, c1, h37']; exact ⟨rfl, rfl⟩)); try dsimp only [thn, inBlk])
      | fail)
    simp [bodyQ, thn, inBlk, resA, resV, go_sem, e]
    exact ⟨_, _, ⟨rfl, rfl⟩, k2.d1⟩
  subst h37
  by_cases hl : bs.length < 3
  · have hl' : (bs.length : Int) < 3 := by omega
    have e := authT_short (k := 3) (o := 37) hl
    (repeat' first
      | refine AWP.seq ?_
      | refine AWP.block ?_
      | (refine AWP.skip ?_; try dsimp only [thn, inBlk])
      | (refine AWP.exit ?_; try simp only [thn, inBlk, if_true, reduceIte, Nat.reduceEqDiff])
      | (refine AWP.ret ?_; try dsimp only [thn, inBlk])
      | (refine AWP.condT ?_ ?_; (focus (simp [go_sem, c1, hl']; done)))
      | (refine AWP.condF ?_ ?_; (focus (simp [go_sem, c1, hl']; done)))
      | (apply AWP.rE; (focus (simp [go_sem, c1, hl']; exact ⟨rfl, rfl⟩)); try dsimp only [thn, inBlk])
      | fail)
    simp [bodyQ, thn, inBlk, resA, resV, go_sem, e]
    exact ⟨_, _, ⟨rfl, rfl⟩, k2.d1⟩
  have hl' : ¬ (bs.length : Int) < 3 := by omega
  obtain ⟨x, y, z, r, hbs⟩ : ∃ x y z r, bs = x :: y :: z :: r := by
    match bs, hl with
    | x :: y :: z :: r, _ => exact ⟨x, y, z, r, rfl⟩
    | [], h => simp at h
    | [_], h => simp at h
    | [_, _], h => simp at h
  obtain ⟨i0, o0, r0, e0, z0, ti0, ro0, p0, q0, g0⟩ := hb.at (P := Tryd.prog) (t := 22) Tryd.underlying22 tsz5 (j := 0) (by omega) (kd := .i64)
  obtain ⟨i1, o1, r1, e1, z1, ti1, ro1, p1, q1, g1⟩ := hb.at (P := Tryd.prog) (t := 22) Tryd.underlying22 tsz5 (j := 1) (by omega) (kd := .i64)
  obtain ⟨i2, o2, r2, e2, z2, ti2, ro2, p2, q2, g2⟩ := hb.at (P := Tryd.prog) (t := 22) Tryd.underlying22 tsz5 (j := 2) (by omega) (kd := .i64)
  have p0 : indexAddrP Tryd.prog 22 (.slice da bs.length dc) (.int .i64 0) = some (.pointer (some ⟨i0, o0, none⟩)) := p0
  have p1 : indexAddrP Tryd.prog 22 (.slice da bs.length dc) (.int .i64 1) = some (.pointer (some ⟨i1, o1, none⟩)) := p1
  have p2 : indexAddrP Tryd.prog 22 (.slice da bs.length dc) (.int .i64 2) = some (.pointer (some ⟨i2, o2, none⟩)) := p2
  have g0 : r0[o0]? = some (.int .u8 x.toNat) := by simpa [hbs] using g0
  have g1 : r1[o1]? = some (.int .u8 y.toNat) := by simpa [hbs] using g1
  have g2 : r2[o2]? = some (.int .u8 z.toNat) := by simpa [hbs] using g2
  by_cases hy : y = 2
  rotate_left
  · have hy' : ((y.toNat : Int) != 2) = true := by
      have : y.toNat ≠ 2 := fun h => hy (UInt8.toNat_inj.1 h)
      simp; omega
    have e : authT 3 37 bs = (0, false, [], 21) := by rw [hbs]; exact authT_mid (.inl hy)
    (repeat' first
      | refine AWP.seq ?_
      | refine AWP.block ?_
      | (refine AWP.skip ?_; try dsimp only [thn, inBlk])
      | (refine AWP.exit ?_; try simp only [thn, inBlk, if_true, reduceIte, Nat.reduceEqDiff])
      | (refine AWP.ret ?_; try dsimp only [thn, inBlk])
      | (refine AWP.condT ?_ ?_; (focus (simp [go_sem, c1, hl', p1, q1, g1, hy']; done)))
      | (refine AWP.condF ?_ ?_; (focus (simp [go_sem, c1, hl', p1, q1, g1, hy']; done)))
      | (apply AWP.rE; (focus (simp [go_sem, c1, hl', p1, q1, g1, hy']; exact ⟨rfl, rfl⟩)); try dsimp only [thn, inBlk])
      | fail)
    simp [bodyQ, thn, inBlk, resA, resV, go_sem, e]
    exact ⟨_, _, ⟨rfl, rfl⟩, k2.d1⟩
  have hy' : ((y.toNat : Int) != 2) = false := by rw [hy]; rfl
  by_cases hz : z = 2
  rotate_left
  · have hz' : ((z.toNat : Int) != 2) = true := by
      have : z.toNat ≠ 2 := fun h => hz (UInt8.toNat_inj.1 h)
      simp; omega
    have e : authT 3 37 bs = (0, false, [], 21) := by rw [hbs]; exact authT_mid (.inr hz)
    (repeat' first
      | refine AWP.seq ?_
      | refine AWP.block ?_
      | (refine AWP.skip ?_; try dsimp only [thn, inBlk])
      | (refine AWP.exit ?_; try simp only [thn, inBlk, if_true, reduceIte, Nat.reduceEqDiff])
      | (refine AWP.ret ?_; try dsimp only [thn, inBlk])
      | (refine AWP.condT ?_ ?_; (focus (simp [go_sem, c1, hl', p1, q1, g1, hy', p2, q2, g2, hz']; done)))
      | (refine AWP.condF ?_ ?_; (focus (simp [go_sem, c1, hl', p1, q1, g1, hy', p2, q2, g2, hz']; done)))
      | (apply AWP.rE; (focus (simp [go_sem, c1, hl', p1, q1, g1, hy', p2, q2, g2, hz']; exact ⟨rfl, rfl⟩)); try dsimp only [thn, inBlk])
      | fail)
    simp [bodyQ, thn, inBlk, resA, resV, go_sem, e]
    exact ⟨_, _, ⟨rfl, rfl⟩, k2.d1⟩
  have hz' : ((z.toNat : Int) != 2) = false := by rw [hz]; rfl
  have hbs2 : bs = x :: 2 :: 2 :: r := by rw [hbs, hy, hz]
  by_cases hx1 : x = 1
  · have hx' : ((x.toNat : Int) == 1) = true := by rw [hx1]; rfl
    by_cases hr : r = []
    · have hl3 : ((bs.length : Int) == 3) = true := by rw [hbs, hr]; rfl
      have e : authT 3 37 bs = (1, false, [], 0) := by rw [hbs2, hr, hx1]; rfl
      (repeat' first
        | refine AWP.seq ?_
        | refine AWP.block ?_
        | (refine AWP.skip ?_; try dsimp only [thn, inBlk])
        | (refine AWP.exit ?_; try simp only [thn, inBlk, if_true, reduceIte, Nat.reduceEqDiff])
        | (refine AWP.ret ?_; try dsimp only [thn, inBlk])
        | (refine AWP.condT ?_ ?_; (focus (simp [go_sem, c1, hl', p1, q1, g1, hy', p2, q2, g2, hz', p0, q0, g0, hx', hl3]; done)))
        | (refine AWP.condF ?_ ?_; (focus (simp [go_sem, c1, hl', p1, q1, g1, hy', p2, q2, g2, hz', p0, q0, g0, hx', hl3]; done)))
        | (apply AWP.rE; (focus (simp [go_sem, c1, hl', p1, q1, g1, hy', p2, q2, g2, hz', p0, q0, g0, hx', hl3]; exact ⟨rfl, rfl⟩)); try dsimp only [thn, inBlk])
        | fail)
      simp [bodyQ, thn, inBlk, resA, resV, go_sem, e]
      exact ⟨_, _, ⟨rfl, rfl⟩, k2.d1⟩
    · have hr' : 0 < r.length := List.length_pos_iff.2 hr
      have hl4 : bs.length = r.length + 3 := by rw [hbs]; rfl
      have hl3 : ((bs.length : Int) == 3) = false := by simp; omega
      have hl5 : ¬ (bs.length : Int) < 4 := by omega
      have e : authT 3 37 bs = (0, false, [], 21) := by rw [hbs2]; exact authT_one hx1 hr
      (repeat' first
        | refine AWP.seq ?_
        | refine AWP.block ?_
        | (refine AWP.skip ?_; try dsimp only [thn, inBlk])
        | (refine AWP.exit ?_; try simp only [thn, inBlk, if_true, reduceIte, Nat.reduceEqDiff])
        | (refine AWP.ret ?_; try dsimp only [thn, inBlk])
        | (refine AWP.condT ?_ ?_; (focus (simp [go_sem, c1, hl', p1, q1, g1, hy', p2, q2, g2, hz', p0, q0, g0, hx', hl3, hl5]; done)))
        | (refine AWP.condF ?_ ?_; (focus (simp [go_sem, c1, hl', p1, q1, g1, hy', p2, q2, g2, hz', p0, q0, g0, hx', hl3, hl5]; done)))
        | (apply AWP.rE; (focus (simp [go_sem, c1, hl', p1, q1, g1, hy', p2, q2, g2, hz', p0, q0, g0, hx', hl3, hl5]; exact ⟨rfl, rfl⟩)); try dsimp only [thn, inBlk])
        | fail)
      simp [bodyQ, thn, inBlk, resA, resV, go_sem, e]
      exact ⟨_, _, ⟨rfl, rfl⟩, k2.d1⟩
  have hx' : ((x.toNat : Int) == 1) = false := by
    have : x.toNat ≠ 1 := fun h => hx1 (UInt8.toNat_inj.1 h)
    simp; omega
  by_cases hr : r = []
  · have hl4 : (bs.length : Int) < 4 := by rw [hbs, hr]; show ((3 : Nat) : Int) < 4; decide
    have e : authT 3 37 bs = (0, false, [], 21) := by rw [hbs2, hr]; exact authT_end hx1
    (repeat' first
      | refine AWP.seq ?_
      | refine AWP.block ?_
      | (refine AWP.skip ?_; try dsimp only [thn, inBlk])
      | (refine AWP.exit ?_; try simp only [thn, inBlk, if_true, reduceIte, Nat.reduceEqDiff])
      | (refine AWP.ret ?_; try dsimp only [thn, inBlk])
      | (refine AWP.condT ?_ ?_; (focus (simp [go_sem, c1, hl', p1, q1, g1, hy', p2, q2, g2, hz', p0, q0, g0, hx', hl4]; done)))
      | (refine AWP.condF ?_ ?_; (focus (simp [go_sem, c1, hl', p1, q1, g1, hy', p2, q2, g2, hz', p0, q0, g0, hx', hl4]; done)))
      | (apply AWP.rE; (focus (simp [go_sem, c1, hl', p1, q1, g1, hy', p2, q2, g2, hz', p0, q0, g0, hx', hl4]; exact ⟨rfl, rfl⟩)); try dsimp only [thn, inBlk])
      | fail)
    simp [bodyQ, thn, inBlk, resA, resV, go_sem, e]
    exact ⟨_, _, ⟨rfl, rfl⟩, k2.d1⟩
  have hr' : 0 < r.length := List.length_pos_iff.2 hr
  have hl4 : bs.length = r.length + 3 := by rw [hbs]; rfl
  have hl5 : ¬ (bs.length : Int) < 4 := by omega
  by_cases hxb : 2 < x.toNat
  · have hxb' : (2 : Int) < x.toNat := by omega
    have e : authT 3 37 bs = (0, false, [], 21) := by rw [hbs2]; exact authT_big hxb
    (repeat' first
      | refine AWP.seq ?_
      | refine AWP.block ?_
      | (refine AWP.skip ?_; try dsimp only [thn, inBlk])
      | (refine AWP.exit ?_; try simp only [thn, inBlk, if_true, reduceIte, Nat.reduceEqDiff])
      | (refine AWP.ret ?_; try dsimp only [thn, inBlk])
      | (refine AWP.condT ?_ ?_; (focus (simp [go_sem, c1, hl', p1, q1, g1, hy', p2, q2, g2, hz', p0, q0, g0, hx', hl5, hxb']; done)))
      | (refine AWP.condF ?_ ?_; (focus (simp [go_sem, c1, hl', p1, q1, g1, hy', p2, q2, g2, hz', p0, q0, g0, hx', hl5, hxb']; done)))
      | (apply AWP.rE; (focus (simp [go_sem, c1, hl', p1, q1, g1, hy', p2, q2, g2, hz', p0, q0, g0, hx', hl5, hxb']; exact ⟨rfl, rfl⟩)); try dsimp only [thn, inBlk])
      | fail)
    simp [bodyQ, thn, inBlk, resA, resV, go_sem, e]
    exact ⟨_, _, ⟨rfl, rfl⟩, k2.d1⟩
  obtain ⟨w, q, rfl⟩ : ∃ w q, r = w :: q := by
    match r, hr with
    | w :: q, _ => exact ⟨w, q, rfl⟩
  have hlq : bs.length = q.length + 4 := by rw [hbs]; rfl
  obtain ⟨i3, o3, r3, e3, z3, ti3, ro3, p3, q3, g3⟩ := hb.at (P := Tryd.prog) (t := 22) Tryd.underlying22 tsz5 (j := 3) (by omega) (kd := .i64)
  have p3 : indexAddrP Tryd.prog 22 (.slice da bs.length dc) (.int .i64 3) = some (.pointer (some ⟨i3, o3, none⟩)) := p3
  have g3 : r3[o3]? = some (.int .u8 w.toNat) := by simpa [hbs] using g3
  have hxb' : ¬ (2 : Int) < x.toNat := by omega
  have hpc : ∀ hh, Bytes hh (.slice da bs.length dc) bs → _ := fun hh kk => kk.piece (P := Tryd.prog) (t := 22) (e := 5) Tryd.underlying22 tsz5 (lo := 4) (hi := bs.length) (by omega) (Nat.le_refl _) (l := some (.int .i64 (4 : Int))) (u := none) (.inr ⟨.i64, rfl⟩) (.inl ⟨rfl, rfl⟩)
  have hd : (bs.take bs.length).drop 4 = q := by rw [List.take_length, hbs]; rfl
  obtain ⟨s1, s2⟩ := hpc _ (hx _ k2.tail.tail)
  rw [hd] at s2
  obtain ⟨ya, yc, hy2⟩ := s2.val
  rw [hy2] at s1 s2
  have hpc2 : ∀ hh, Bytes hh (.slice da bs.length dc) bs → Bytes hh (.slice ya q.length yc) q := fun hh kk => by
    have := (hpc hh kk).2
    rw [hd, hy2] at this; exact this
  obtain ⟨a9, n9, h9, e9, k9⟩ := k1.copy (P := Tryd.prog) (t := 22) (xt := 22) (i := h1.next) Tryd.underlying22 tsz5 tby5 tz5 nI22 (fun hh kk => hpc2 hh (hx hh kk.tail)) (by omega) rfl
  have hb9 := hx h9 k9.tail.tail
  obtain ⟨j0, u0, r0', e0', z0', ti0', ro0', p0', q0', g0'⟩ := hb9.at (P := Tryd.prog) (t := 22) Tryd.underlying22 tsz5 (j := 0) (by omega) (kd := .i64)
  obtain ⟨j3, u3, r3', e3', z3', ti3', ro3', p3', q3', g3'⟩ := hb9.at (P := Tryd.prog) (t := 22) Tryd.underlying22 tsz5 (j := 3) (by omega) (kd := .i64)
  cases p0.symm.trans p0'
  cases p3.symm.trans p3'
  have g0' : r0'[o0]? = some (.int .u8 x.toNat) := by simpa [hbs] using g0'
  have g3' : r3'[o3]? = some (.int .u8 w.toNat) := by simpa [hbs] using g3'
  by_cases hx0 : x = 0
  · have hx0' : ((x.toNat : Int) == 0) = true := by rw [hx0]; rfl
    have hx2' : ((x.toNat : Int) == 2) = false := by rw [hx0]; rfl
    have hxw : IntKind.i64.wrap (x.toNat : Int) = 0 := by rw [hx0]; decide
    by_cases hw : w = 0
    · have hw' : ((w.toNat : Int) != 0) = false := by rw [hw]; rfl
      have e : authT 3 37 bs = (0, false, q, 0) := by rw [hbs2, hx0, authT_zero, if_pos hw]
      (repeat' first
        | refine AWP.seq ?_
        | refine AWP.block ?_
        | (refine AWP.skip ?_; try dsimp only [thn, inBlk])
        | (refine AWP.exit ?_; try simp only [thn, inBlk, if_true, reduceIte, Nat.reduceEqDiff])
        | (refine AWP.ret ?_; try dsimp only [thn, inBlk])
        | (refine AWP.condT ?_ ?_; (focus (simp [go_sem, c1, hl', p1, q1, g1, hy', p2, q2, g2, hz', p0, q0, g0, hx', hl5, hxb', p3, q3, g3, hx0', hx2', hw']; done)))
        | (refine AWP.condF ?_ ?_; (focus (simp [go_sem, c1, hl', p1, q1, g1, hy', p2, q2, g2, hz', p0, q0, g0, hx', hl5, hxb', p3, q3, g3, hx0', hx2', hw']; done)))
        | (apply AWP.rE; (focus (simp [go_sem, c1, hl', p1, q1, g1, hy', p2, q2, g2, hz', p0, q0, g0, hx', hl5, hxb', p3, q3, g3, hx0', hx2', hw']; exact ⟨rfl, rfl⟩)); try dsimp only [thn, inBlk])
        | fail)
      refine AWP.draw hmix [.n 0 [6], .n 1 [91], .n 2 [92], .n 3 [93], .n 4 [6], .n 5 [95], .n 6 [96], .n 7 [97], .n 8 [98], .n 9 [6, 99], .n 10 [100, 99], .n 11 [101, 99], .n 12 [102, 99], .n 13 [99, 103], .n 14 [], .n 15 [6], .n 16 [106], .w 17 [105, 107] [2, 3, 11], .n 18 [94], .n 19 [104], .n 20 [108], .n 21 []] (by kernel_rfl) ?_
      refine awpD_writeR 17 (by rfl) (by rfl) (by simp [go_sem, p0, q0, g0, p3, q3, g3, hx2', hx2', s1, e9, hxw, q0', g0', q3', g3']; exact ⟨rfl, rfl, rfl⟩) (by rfl) (by rfl) (by simp [go_sem]) (by simp [go_sem, p0, q0, g0, p3, q3, g3, hx2', hx2', s1, e9, hxw, q0', g0', q3', g3']; exact ⟨rfl, rfl⟩) (by simp [still, go_sem, p0, q0, g0, p3, q3, g3, hx2', hx2', s1, e9, hxw, q0', g0', q3', g3']) ?_
      refine awpD_restR (by rfl) (by simp [go_sem, hxw]; exact ⟨rfl, rfl, rfl⟩) ?_; try dsimp only [thn, inBlk]
      (repeat' first
        | refine AWP.seq ?_
        | refine AWP.block ?_
        | (refine AWP.skip ?_; try dsimp only [thn, inBlk])
        | (refine AWP.exit ?_; try simp only [thn, inBlk, if_true, reduceIte, Nat.reduceEqDiff])
        | (refine AWP.ret ?_; try dsimp only [thn, inBlk])
        | (refine AWP.condT ?_ ?_; (focus (simp [go_sem]; done)))
        | (refine AWP.condF ?_ ?_; (focus (simp [go_sem]; done)))
        | (apply AWP.rE; (focus (simp [go_sem]; exact ⟨rfl, rfl⟩)); try dsimp only [thn, inBlk])
        | fail)
      simp [bodyQ, thn, inBlk, resA, resV, go_sem, e]
      exact ⟨_, _, ⟨rfl, rfl⟩, k9.d1⟩
    · have hw' : ((w.toNat : Int) != 0) = true := by
        have : w.toNat ≠ 0 := fun h => hw (UInt8.toNat_inj.1 h)
        simp; omega
      have e : authT 3 37 bs = (0, false, [], 21) := by rw [hbs2, hx0, authT_zero, if_neg hw]
      (repeat' first
        | refine AWP.seq ?_
        | refine AWP.block ?_
        | (refine AWP.skip ?_; try dsimp only [thn, inBlk])
        | (refine AWP.exit ?_; try simp only [thn, inBlk, if_true, reduceIte, Nat.reduceEqDiff])
        | (refine AWP.ret ?_; try dsimp only [thn, inBlk])
        | (refine AWP.condT ?_ ?_; (focus (simp [go_sem, c1, hl', p1, q1, g1, hy', p2, q2, g2, hz', p0, q0, g0, hx', hl5, hxb', p3, q3, g3, hx0', hx2', hw']; done)))
        | (refine AWP.condF ?_ ?_; (focus (simp [go_sem, c1, hl', p1, q1, g1, hy', p2, q2, g2, hz', p0, q0, g0, hx', hl5, hxb', p3, q3, g3, hx0', hx2', hw']; done)))
        | (apply AWP.rE; (focus (simp [go_sem, c1, hl', p1, q1, g1, hy', p2, q2, g2, hz', p0, q0, g0, hx', hl5, hxb', p3, q3, g3, hx0', hx2', hw']; exact ⟨rfl, rfl⟩)); try dsimp only [thn, inBlk])
        | fail)
      simp [bodyQ, thn, inBlk, resA, resV, go_sem, e]
      exact ⟨_, _, ⟨rfl, rfl⟩, k2.d1⟩
  have hx2 : x = 2 := UInt8.toNat_inj.1 (by
    have h0 : x.toNat ≠ 0 := fun h => hx0 (UInt8.toNat_inj.1 h)
    have h1 : x.toNat ≠ 1 := fun h => hx1 (UInt8.toNat_inj.1 h)
    show x.toNat = 2; omega)
  have hx0' : ((x.toNat : Int) == 0) = false := by rw [hx2]; rfl
  have hx2' : ((x.toNat : Int) == 2) = true := by rw [hx2]; rfl
  have hxw : IntKind.i64.wrap (x.toNat : Int) = 2 := by rw [hx2]; decide
  by_cases hw1 : w = 1
  · have hw' : ((w.toNat : Int) != 1) = false := by rw [hw1]; rfl
    have hw2 : ((w.toNat : Int) == 2) = false := by rw [hw1]; rfl
    have e : authT 3 37 bs = (2, false, q, 0) := by rw [hbs2, hx2, authT_two, if_pos hw1]
    (repeat' first
      | refine AWP.seq ?_
      | refine AWP.block ?_
      | (refine AWP.skip ?_; try dsimp only [thn, inBlk])
      | (refine AWP.exit ?_; try simp only [thn, inBlk, if_true, reduceIte, Nat.reduceEqDiff])
      | (refine AWP.ret ?_; try dsimp only [thn, inBlk])
      | (refine AWP.condT ?_ ?_; (focus (simp [go_sem, c1, hl', p1, q1, g1, hy', p2, q2, g2, hz', p0, q0, g0, hx', hl5, hxb', p3, q3, g3, hx0', hx2', hw', hw2]; done)))
      | (refine AWP.condF ?_ ?_; (focus (simp [go_sem, c1, hl', p1, q1, g1, hy', p2, q2, g2, hz', p0, q0, g0, hx', hl5, hxb', p3, q3, g3, hx0', hx2', hw', hw2]; done)))
      | (apply AWP.rE; (focus (simp [go_sem, c1, hl', p1, q1, g1, hy', p2, q2, g2, hz', p0, q0, g0, hx', hl5, hxb', p3, q3, g3, hx0', hx2', hw', hw2]; exact ⟨rfl, rfl⟩)); try dsimp only [thn, inBlk])
      | fail)
    refine AWP.draw hmix [.n 0 [6], .n 1 [91], .n 2 [92], .n 3 [93], .n 4 [6], .n 5 [95], .n 6 [96], .n 7 [97], .n 8 [98], .n 9 [6, 99], .n 10 [100, 99], .n 11 [101, 99], .n 12 [102, 99], .n 13 [99, 103], .n 14 [], .n 15 [6], .n 16 [106], .w 17 [105, 107] [2, 3, 11], .n 18 [94], .n 19 [104], .n 20 [108], .n 21 []] (by kernel_rfl) ?_
    refine awpD_writeR 17 (by rfl) (by rfl) (by simp [go_sem, p0, q0, g0, p3, q3, g3, hx2', hw2, s1, e9, hxw, q0', g0', q3', g3']; exact ⟨rfl, rfl, rfl⟩) (by rfl) (by rfl) (by simp [go_sem]) (by simp [go_sem, p0, q0, g0, p3, q3, g3, hx2', hw2, s1, e9, hxw, q0', g0', q3', g3']; exact ⟨rfl, rfl⟩) (by simp [still, go_sem, p0, q0, g0, p3, q3, g3, hx2', hw2, s1, e9, hxw, q0', g0', q3', g3']) ?_
    refine awpD_restR (by rfl) (by simp [go_sem, hxw]; exact ⟨rfl, rfl, rfl⟩) ?_; try dsimp only [thn, inBlk]
    (repeat' first
      | refine AWP.seq ?_
      | refine AWP.block ?_
      | (refine AWP.skip ?_; try dsimp only [thn, inBlk])
      | (refine AWP.exit ?_; try simp only [thn, inBlk, if_true, reduceIte, Nat.reduceEqDiff])
      | (refine AWP.ret ?_; try dsimp only [thn, inBlk])
      | (refine AWP.condT ?_ ?_; (focus (simp [go_sem]; done)))
      | (refine AWP.condF ?_ ?_; (focus (simp [go_sem]; done)))
      | (apply AWP.rE; (focus (simp [go_sem]; exact ⟨rfl, rfl⟩)); try dsimp only [thn, inBlk])
      | fail)
    simp [bodyQ, thn, inBlk, resA, resV, go_sem, e]
    exact ⟨_, _, ⟨rfl, rfl⟩, k9.d1⟩
  have hw' : ((w.toNat : Int) != 1) = true := by
    have : w.toNat ≠ 1 := fun h => hw1 (UInt8.toNat_inj.1 h)
    simp; omega
  by_cases hw2 : w = 2
  · have hw3 : ((w.toNat : Int) != 2) = false := by rw [hw2]; rfl
    have hw4 : ((w.toNat : Int) == 2) = true := by rw [hw2]; rfl
    have e : authT 3 37 bs = (2, true, q, 0) := by rw [hbs2, hx2, authT_two, if_neg hw1, if_pos hw2]
    (repeat' first
      | refine AWP.seq ?_
      | refine AWP.block ?_
      | (refine AWP.skip ?_; try dsimp only [thn, inBlk])
      | (refine AWP.exit ?_; try simp only [thn, inBlk, if_true, reduceIte, Nat.reduceEqDiff])
      | (refine AWP.ret ?_; try dsimp only [thn, inBlk])
      | (refine AWP.condT ?_ ?_; (focus (simp [go_sem, c1, hl', p1, q1, g1, hy', p2, q2, g2, hz', p0, q0, g0, hx', hl5, hxb', p3, q3, g3, hx0', hx2', hw', hw3, hw4]; done)))
      | (refine AWP.condF ?_ ?_; (focus (simp [go_sem, c1, hl', p1, q1, g1, hy', p2, q2, g2, hz', p0, q0, g0, hx', hl5, hxb', p3, q3, g3, hx0', hx2', hw', hw3, hw4]; done)))
      | (apply AWP.rE; (focus (simp [go_sem, c1, hl', p1, q1, g1, hy', p2, q2, g2, hz', p0, q0, g0, hx', hl5, hxb', p3, q3, g3, hx0', hx2', hw', hw3, hw4]; exact ⟨rfl, rfl⟩)); try dsimp only [thn, inBlk])
      | fail)
    refine AWP.draw hmix [.n 0 [6], .n 1 [91], .n 2 [92], .n 3 [93], .n 4 [6], .n 5 [95], .n 6 [96], .n 7 [97], .n 8 [98], .n 9 [6, 99], .n 10 [100, 99], .n 11 [101, 99], .n 12 [102, 99], .n 13 [99, 103], .n 14 [], .n 15 [6], .n 16 [106], .w 17 [105, 107] [2, 3, 11], .n 18 [94], .n 19 [104], .n 20 [108], .n 21 []] (by kernel_rfl) ?_
    refine awpD_writeR 17 (by rfl) (by rfl) (by simp [go_sem, p0, q0, g0, p3, q3, g3, hx2', hw4, s1, e9, hxw, q0', g0', q3', g3']; exact ⟨rfl, rfl, rfl⟩) (by rfl) (by rfl) (by simp [go_sem]) (by simp [go_sem, p0, q0, g0, p3, q3, g3, hx2', hw4, s1, e9, hxw, q0', g0', q3', g3']; exact ⟨rfl, rfl⟩) (by simp [still, go_sem, p0, q0, g0, p3, q3, g3, hx2', hw4, s1, e9, hxw, q0', g0', q3', g3']) ?_
    refine awpD_restR (by rfl) (by simp [go_sem, hxw]; exact ⟨rfl, rfl, rfl⟩) ?_; try dsimp only [thn, inBlk]
    (repeat' first
      | refine AWP.seq ?_
      | refine AWP.block ?_
      | (refine AWP.skip ?_; try dsimp only [thn, inBlk])
      | (refine AWP.exit ?_; try simp only [thn, inBlk, if_true, reduceIte, Nat.reduceEqDiff])
      | (refine AWP.ret ?_; try dsimp only [thn, inBlk])
      | (refine AWP.condT ?_ ?_; (focus (simp [go_sem]; done)))
      | (refine AWP.condF ?_ ?_; (focus (simp [go_sem]; done)))
      | (apply AWP.rE; (focus (simp [go_sem]; exact ⟨rfl, rfl⟩)); try dsimp only [thn, inBlk])
      | fail)
    simp [bodyQ, thn, inBlk, resA, resV, go_sem, e]
    exact ⟨_, _, ⟨rfl, rfl⟩, k9.d1⟩
  · have hw3 : ((w.toNat : Int) != 2) = true := by
      have : w.toNat ≠ 2 := fun h => hw2 (UInt8.toNat_inj.1 h)
      simp; omega
    have e : authT 3 37 bs = (0, false, [], 21) := by rw [hbs2, hx2, authT_two, if_neg hw1, if_neg hw2]
    (repeat' first
      | refine AWP.seq ?_
      | refine AWP.block ?_
      | (refine AWP.skip ?_; try dsimp only [thn, inBlk])
      | (refine AWP.exit ?_; try simp only [thn, inBlk, if_true, reduceIte, Nat.reduceEqDiff])
      | (refine AWP.ret ?_; try dsimp only [thn, inBlk])
      | (refine AWP.condT ?_ ?_; (focus (simp [go_sem, c1, hl', p1, q1, g1, hy', p2, q2, g2, hz', p0, q0, g0, hx', hl5, hxb', p3, q3, g3, hx0', hx2', hw', hw3]; done)))
      | (refine AWP.condF ?_ ?_; (focus (simp [go_sem, c1, hl', p1, q1, g1, hy', p2, q2, g2, hz', p0, q0, g0, hx', hl5, hxb', p3, q3, g3, hx0', hx2', hw', hw3]; done)))
      | (apply AWP.rE; (focus (simp [go_sem, c1, hl', p1, q1, g1, hy', p2, q2, g2, hz', p0, q0, g0, hx', hl5, hxb', p3, q3, g3, hx0', hx2', hw', hw3]; exact ⟨rfl, rfl⟩)); try dsimp only [thn, inBlk])
      | fail)
    simp [bodyQ, thn, inBlk, resA, resV, go_sem, e]
    exact ⟨_, _, ⟨rfl, rfl⟩, k2.d1⟩
end L22
