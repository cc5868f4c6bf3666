import Derived.Test.YtfdkdkhmblhehaaL01q
open Go Ab Go.Proofs
namespace L01
set_option autoImplicit false
set_option linter.unusedSimpArgs false
set_option linter.unusedVariables false

theorem clone_calls {O : Old} {h : AHeap} {R : List Chunk} {v : Value} {bs : List UInt8} (k : Own O h R) (hx : ∀ h, Own O h R → Bytes h v bs) (hm : bs.length ≤ 140737488355328) :
    ACalls Try.prog 28 #[v] h fun r h' => ∃ a cap, r = .slice a bs.length cap ∧ Own O h' (ob 5 (.slice a bs.length cap) bs :: R) := by
  refine ACalls.of_awp (args := [v]) (n := 8) Try.func28 rfl rfl (by show 1 ≤ 8; omega) ?_
  rcases hx h k with ⟨rfl, rfl⟩ | ⟨i, off, cap, c, e, sz, ti, ro, rfl, _⟩
  · (repeat' first
      | refine AWP.seq ?_
      | refine AWP.block ?_
      | (refine AWP.skip ?_; try dsimp only [thn, inBlk])
      | (refine AWP.exit ?_; try simp only [thn, inBlk, if_true, reduceIte, Nat.reduceEqDiff])
      | (refine AWP.ret ?_; try dsimp only [thn, inBlk])
      | (refine AWP.condT ?_ ?_; (focus (simp [go_sem]; done)))
      | (refine AWP.condF ?_ ?_; (focus (simp [go_sem]; done)))
      | (apply AWP.rE; (focus (simp [go_sem]; exact ⟨rfl, rfl⟩)); try dsimp only [thn, inBlk])
      | fail)
    simp [bodyQ, thn, inBlk, resA, resV, go_sem]
    exact ⟨_, _, ⟨rfl, rfl⟩, k.nil 5 1⟩
  · obtain ⟨a2, c2, h2, e1, k2⟩ := k.copy (P := Try.prog) (t := 24) (xt := 24) (i := h.next) Try.underlying24 tsz5 tby5 tz5 nI24 hx hm rfl
    (repeat' first
      | refine AWP.seq ?_
      | refine AWP.block ?_
      | (refine AWP.skip ?_; try dsimp only [thn, inBlk])
      | (refine AWP.exit ?_; try simp only [thn, inBlk, if_true, reduceIte, Nat.reduceEqDiff])
      | (refine AWP.ret ?_; try dsimp only [thn, inBlk])
      | (refine AWP.condT ?_ ?_; (focus (simp [go_sem, e1]; done)))
      | (refine AWP.condF ?_ ?_; (focus (simp [go_sem, e1]; done)))
      | (apply AWP.rE; (focus (simp [go_sem, e1]; exact ⟨rfl, rfl⟩)); try dsimp only [thn, inBlk])
      | fail)
    simp [bodyQ, thn, inBlk, resA, resV, go_sem]
    exact ⟨_, _, ⟨rfl, rfl⟩, k2⟩


set_option maxHeartbeats 4000000 in
theorem split_calls {O : Old} {h : AHeap} {R : List Chunk} {xv : Value} {bs : List UInt8} (k : Own O h R) (hx : ∀ h, Own O h R → Bytes h xv bs) (hm : bs.length ≤ 1000000) :
    ACalls Try.prog 20 #[xv] h fun v h' => ∃ a cap, v = .tuple #[.slice a (T1.splitGo [] bs).1.length cap, .int .i64 (T1.splitGo [] bs).2] ∧ Own O h' (fch (.slice a (T1.splitGo [] bs).1.length cap) (T1.splitGo [] bs).1 :: R) := by
  obtain ⟨xa, xc, rfl⟩ := (hx h k).val
  refine ACalls.of_awp (args := [.slice xa bs.length xc]) (n := 48) Try.func20 rfl rfl (by show 1 ≤ 48; omega) ?_
  (repeat' first
    | refine AWP.seq ?_
    | refine AWP.block ?_
    | (refine AWP.skip ?_; try dsimp only [thn, inBlk])
    | (refine AWP.exit ?_; try simp only [thn, inBlk, if_true, reduceIte, Nat.reduceEqDiff])
    | (refine AWP.ret ?_; try dsimp only [thn, inBlk])
    | (refine AWP.condT ?_ ?_; (focus (simp [go_sem]; done)))
    | (refine AWP.condF ?_ ?_; (focus (simp [go_sem]; done)))
    | (apply AWP.rE; (focus (simp [go_sem]; exact ⟨rfl, rfl⟩)); try dsimp only [thn, inBlk])
    | (apply AWP.dE hmix [.n 0 [0], .n 1 [16], .n 2 [17], .n 3 [18], .n 4 [19], .n 5 [0], .n 6 [21], .n 7 [22], .n 8 [23], .n 9 [20, 24], .n 10 [25]]; (focus kernel_rfl); (focus (simp [go_sem]; exact ⟨rfl, rfl⟩)); try dsimp only [thn, inBlk])
    | fail)
  refine AWP.loopR [0, 2] (fun m s h' => ∃ (t : List UInt8) (ya : Option Addr) (yc : Nat) (fs : List F) (a : Option Addr) (cap : Nat), m = t.length ∧ s = ⟨48, [(0, .slice ya t.length yc), (2, .slice a fs.length cap)]⟩ ∧
    T1.splitGo [] bs = T1.splitGo fs t ∧ fs.length + t.length ≤ 1000000 ∧ (∀ hh, Own O hh R → Bytes hh (.slice ya t.length yc) t) ∧ Own O h' (fch (.slice a fs.length cap) fs :: R)) ?_ ?_
  · exact ⟨_, bs, xa, xc, [], none, 0, rfl, rfl, rfl, by simpa using hm, hx, Own.brecs_nil 46 2 5 k⟩
  rintro m s h' ⟨t, ya, yc, fs, a, cap, rfl, rfl, hp, hf, hy, k1⟩
  rcases t with _ | ⟨c, t⟩
  · rw [T1.splitGo] at hp
    rw [hp]
    (repeat' first
      | refine AWP.seq ?_
      | refine AWP.block ?_
      | (refine AWP.skip ?_; try dsimp only [thn, inBlk])
      | (refine AWP.exit ?_; try simp only [thn, inBlk, if_true, reduceIte, Nat.reduceEqDiff])
      | (refine AWP.ret ?_; try dsimp only [thn, inBlk])
      | (refine AWP.condT ?_ ?_; (focus (simp [go_sem]; done)))
      | (refine AWP.condF ?_ ?_; (focus (simp [go_sem]; done)))
      | (apply AWP.rE; (focus (simp [go_sem]; exact ⟨rfl, rfl⟩)); try dsimp only [thn, inBlk])
      | (apply AWP.dE hmix [.n 0 [0], .n 1 [16], .n 2 [17], .n 3 [18], .n 4 [19], .n 5 [0], .n 6 [21], .n 7 [22], .n 8 [23], .n 9 [20, 24], .n 10 [25]]; (focus kernel_rfl); (focus (simp [go_sem]; exact ⟨rfl, rfl⟩)); try dsimp only [thn, inBlk])
      | fail)
    simp [bodyQ, thn, inBlk, resA, resV, go_sem]
    exact ⟨_, _, ⟨rfl, rfl⟩, k1⟩
  have hb := hy h' k1.tail
  obtain ⟨i0, o0, r0, e0, z0, ti0, ro0, p0, q0, g0⟩ := hb.at (P := Try.prog) (t := 24) Try.underlying24 tsz5 (j := 0) (by simp) (kd := .i64)
  have p0' : indexAddrP Try.prog 24 (.slice ya (c :: t).length yc) (.int .i64 0) = some (.pointer (some ⟨i0, o0, none⟩)) := p0
  simp only [List.getElem_cons_zero] at g0
  generalize hL : (c :: t).length = L at *
  have hL0 : (0 : Int) < L := by simp at hL; omega
  have hL0' : 0 < L := by omega
  by_cases h4 : c = 0
  · have h4' : ((c.toNat : Int) == 0) = true := by rw [h4]; rfl
    rw [h4, T1.splitGo_zero] at hp
    rw [hp]
    (repeat' first
      | refine AWP.seq ?_
      | refine AWP.block ?_
      | (refine AWP.skip ?_; try dsimp only [thn, inBlk])
      | (refine AWP.exit ?_; try simp only [thn, inBlk, if_true, reduceIte, Nat.reduceEqDiff])
      | (refine AWP.ret ?_; try dsimp only [thn, inBlk])
      | (refine AWP.condT ?_ ?_; (focus (simp [go_sem, hL0,hL0',p0',q0,g0,h4']; done)))
      | (refine AWP.condF ?_ ?_; (focus (simp [go_sem, hL0,hL0',p0',q0,g0,h4']; done)))
      | (apply AWP.rE; (focus (simp [go_sem, hL0,hL0',p0',q0,g0,h4']; exact ⟨rfl, rfl⟩)); try dsimp only [thn, inBlk])
      | (apply AWP.dE hmix [.n 0 [0], .n 1 [16], .n 2 [17], .n 3 [18], .n 4 [19], .n 5 [0], .n 6 [21], .n 7 [22], .n 8 [23], .n 9 [20, 24], .n 10 [25]]; (focus kernel_rfl); (focus (simp [go_sem, hL0,hL0',p0',q0,g0,h4']; exact ⟨rfl, rfl⟩)); try dsimp only [thn, inBlk])
      | fail)
    simp [bodyQ, thn, inBlk, resA, resV, go_sem]
    exact ⟨_, _, ⟨rfl, rfl⟩, Own.brecs_nil 46 2 5 k1.tail⟩
  have h4' : ((c.toNat : Int) == 0) = false := by
    have : c.toNat ≠ 0 := fun e => h4 (by rw [← UInt8.toNat_inj]; simpa using e)
    simp; omega
  have h4'' : ¬ c.toNat = 0 := fun e => h4 (by rw [← UInt8.toNat_inj]; simpa using e)
  by_cases hs : L < 3
  · have hs' : (L : Int) < 3 := by omega
    have hp : T1.splitGo [] bs = ([], 20) := by
      rcases t with _ | ⟨x, _ | ⟨y, body⟩⟩
      · rw [hp, T1.splitGo_one _ h4]
      · rw [hp, T1.splitGo_two _ h4]
      · simp at hL; omega
    rw [hp]
    (repeat' first
      | refine AWP.seq ?_
      | refine AWP.block ?_
      | (refine AWP.skip ?_; try dsimp only [thn, inBlk])
      | (refine AWP.exit ?_; try simp only [thn, inBlk, if_true, reduceIte, Nat.reduceEqDiff])
      | (refine AWP.ret ?_; try dsimp only [thn, inBlk])
      | (refine AWP.condT ?_ ?_; (focus (simp [go_sem, hL0,hL0',p0',q0,g0,h4',h4'',hs,hs']; done)))
      | (refine AWP.condF ?_ ?_; (focus (simp [go_sem, hL0,hL0',p0',q0,g0,h4',h4'',hs,hs']; done)))
      | (apply AWP.rE; (focus (simp [go_sem, hL0,hL0',p0',q0,g0,h4',h4'',hs,hs']; exact ⟨rfl, rfl⟩)); try dsimp only [thn, inBlk])
      | (apply AWP.dE hmix [.n 0 [0], .n 1 [16], .n 2 [17], .n 3 [18], .n 4 [19], .n 5 [0], .n 6 [21], .n 7 [22], .n 8 [23], .n 9 [20, 24], .n 10 [25]]; (focus kernel_rfl); (focus (simp [go_sem, hL0,hL0',p0',q0,g0,h4',h4'',hs,hs']; exact ⟨rfl, rfl⟩)); try dsimp only [thn, inBlk])
      | fail)
    simp [bodyQ, thn, inBlk, resA, resV, go_sem]
    exact ⟨_, _, ⟨rfl, rfl⟩, Own.brecs_nil 46 2 5 k1.tail⟩
  have hs' : ¬ (L : Int) < 3 := by omega
  obtain ⟨x, y, body, rfl⟩ : ∃ x y body, t = x :: y :: body := by
    rcases t with _ | ⟨x, _ | ⟨y, body⟩⟩
    · simp at hL; omega
    · simp at hL; omega
    · exact ⟨_, _, _, rfl⟩
  obtain ⟨i1, o1, r1, e1, z1, ti1, ro1, p1, q1, g1⟩ := hb.at (P := Try.prog) (t := 24) Try.underlying24 tsz5 (j := 1) (by simp) (kd := .i64)
  obtain ⟨i2, o2, r2, e2, z2, ti2, ro2, p2, q2, g2⟩ := hb.at (P := Try.prog) (t := 24) Try.underlying24 tsz5 (j := 2) (by simp) (kd := .i64)
  have p1' : indexAddrP Try.prog 24 (.slice ya L yc) (.int .i64 1) = some (.pointer (some ⟨i1, o1, none⟩)) := p1
  have p2' : indexAddrP Try.prog 24 (.slice ya L yc) (.int .i64 2) = some (.pointer (some ⟨i2, o2, none⟩)) := p2
  simp only [List.getElem_cons_zero, List.getElem_cons_succ] at g1 g2
  have lx := x.toNat_lt
  have ly := y.toNat_lt
  obtain ⟨n, hnn⟩ : ∃ n : Nat, n = 256 * x.toNat + y.toNat := ⟨_, rfl⟩
  have wx : IntKind.i64.wrap (x.toNat : Int) = x.toNat := wI64 (by omega) (by omega)
  have wy : IntKind.i64.wrap (y.toNat : Int) = y.toNat := wI64 (by omega) (by omega)
  have wc : IntKind.i64.wrap (c.toNat : Int) = c.toNat := by have := c.toNat_lt; exact wI64 (by omega) (by omega)
  have wsh : IntKind.i64.wrap ((x.toNat : Int) * 256) = (x.toNat : Int) * 256 := wI64 (by omega) (by omega)
  have hor := T1.or_i64 (n := x.toNat) (b := y.toNat) lx ly
  rw [← hnn] at hor
  have hor2 : IntKind.i64.wrap (((@BitVec.toNat 64 (@HOr.hOr (BitVec 64) (BitVec 64) (BitVec 64) (@instHOrOfOrOp (BitVec IntKind.i64.bits) (@BitVec.instOrOp IntKind.i64.bits)) (BitVec.ofInt 64 ((x.toNat : Int) * 256)) (BitVec.ofNat 64 y.toNat)) : Nat) : Int)) = n := (congrArg IntKind.i64.wrap hor).trans (wI64 (by omega) (by omega))
  have hbl : body.length + 3 = L := by rw [← hL]; simp
  have piece3 : ∀ {hh : AHeap}, Bytes hh (.slice ya L yc) (c :: x :: y :: body) → sliceR Try.prog hh 24 (.slice ya L yc) (some (.int .i64 3)) none none = some (sliceV 1 3 L (.slice ya L yc)) ∧ Bytes hh (sliceV 1 3 L (.slice ya L yc)) body := fun b => by
    have := b.piece (P := Try.prog) (t := 24) (e := 5) Try.underlying24 tsz5 (lo := 3) (hi := L) (by omega) (by rw [hL]; omega) (l := some (.int .i64 ((3 : Nat) : Int))) (u := none) (.inr ⟨.i64, rfl⟩) (.inl ⟨rfl, hL.symm⟩)
    rw [List.take_of_length_le (by rw [hL]; omega)] at this
    exact this
  obtain ⟨s3, b3⟩ := piece3 hb
  have b3a : ∀ hh, Own O hh R → Bytes hh (sliceV 1 3 L (.slice ya L yc)) body := fun hh o => (piece3 (hy hh o)).2
  obtain ⟨za, zc, hz⟩ := b3.val
  rw [hz] at s3 b3 b3a
  have hhp : T1.splitGo [] bs = if body.length < n then ([], 20) else T1.splitGo (fs ++ [((c.toNat : Int), body.take n)]) (body.drop n) := by
    rw [hp]
    by_cases hbn : body.length < n
    · rw [if_pos hbn, T1.splitGo_big _ h4 (by rw [← hnn]; exact hbn)]
    · rw [if_neg hbn, T1.splitGo_step _ h4 (by rw [← hnn]; exact hbn), ← hnn]
  by_cases hbn : body.length < n
  · have hbn' : (body.length : Int) < n := by omega
    rw [if_pos hbn] at hhp
    have hp := hhp
    rw [hp]
    (repeat' first
      | refine AWP.seq ?_
      | refine AWP.block ?_
      | (refine AWP.skip ?_; try dsimp only [thn, inBlk])
      | (refine AWP.exit ?_; try simp only [thn, inBlk, if_true, reduceIte, Nat.reduceEqDiff])
      | (refine AWP.ret ?_; try dsimp only [thn, inBlk])
      | (refine AWP.condT ?_ ?_; (focus (simp [go_sem, hL0,hL0',p0',q0,g0,h4',h4'',hs,hs',p1',q1,g1,p2',q2,g2,wx,wy,wsh,hor2,s3,hbn,hbn']; done)))
      | (refine AWP.condF ?_ ?_; (focus (simp [go_sem, hL0,hL0',p0',q0,g0,h4',h4'',hs,hs',p1',q1,g1,p2',q2,g2,wx,wy,wsh,hor2,s3,hbn,hbn']; done)))
      | (apply AWP.rE; (focus (simp [go_sem, hL0,hL0',p0',q0,g0,h4',h4'',hs,hs',p1',q1,g1,p2',q2,g2,wx,wy,wsh,hor2,s3,hbn,hbn']; exact ⟨rfl, rfl⟩)); try dsimp only [thn, inBlk])
      | (apply AWP.dE hmix [.n 0 [0], .n 1 [16], .n 2 [17], .n 3 [18], .n 4 [19], .n 5 [0], .n 6 [21], .n 7 [22], .n 8 [23], .n 9 [20, 24], .n 10 [25]]; (focus kernel_rfl); (focus (simp [go_sem, hL0,hL0',p0',q0,g0,h4',h4'',hs,hs',p1',q1,g1,p2',q2,g2,wx,wy,wsh,hor2,s3,hbn,hbn']; exact ⟨rfl, rfl⟩)); try dsimp only [thn, inBlk])
      | fail)
    simp [bodyQ, thn, inBlk, resA, resV, go_sem]
    exact ⟨_, _, ⟨rfl, rfl⟩, Own.brecs_nil 46 2 5 k1.tail⟩
  have hbn' : ¬ (body.length : Int) < n := by omega
  rw [if_neg hbn] at hhp
  have piece4 : ∀ {hh : AHeap}, Bytes hh (.slice za body.length zc) body → sliceR Try.prog hh 24 (.slice za body.length zc) none (some (.int .i64 n)) none = some (sliceV 1 0 n (.slice za body.length zc)) ∧ Bytes hh (sliceV 1 0 n (.slice za body.length zc)) (body.take n) := fun b =>
    b.piece (P := Try.prog) (t := 24) (e := 5) Try.underlying24 tsz5 (lo := 0) (hi := n) (by omega) (by omega) (l := none) (u := some (.int .i64 (n : Int))) (.inl ⟨rfl, rfl⟩) (.inr ⟨.i64, rfl⟩)
  have piece5 : ∀ {hh : AHeap}, Bytes hh (.slice za body.length zc) body → sliceR Try.prog hh 24 (.slice za body.length zc) (some (.int .i64 n)) none none = some (sliceV 1 n body.length (.slice za body.length zc)) ∧ Bytes hh (sliceV 1 n body.length (.slice za body.length zc)) (body.drop n) := fun b => by
    have := b.piece (P := Try.prog) (t := 24) (e := 5) Try.underlying24 tsz5 (lo := n) (hi := body.length) (by omega) (by omega) (l := some (.int .i64 (n : Int))) (u := none) (.inr ⟨.i64, rfl⟩) (.inl ⟨rfl, rfl⟩)
    rw [List.take_length] at this
    exact this
  obtain ⟨s4, b4⟩ := piece4 b3
  (repeat' first
    | refine AWP.seq ?_
    | refine AWP.block ?_
    | (refine AWP.skip ?_; try dsimp only [thn, inBlk])
    | (refine AWP.exit ?_; try simp only [thn, inBlk, if_true, reduceIte, Nat.reduceEqDiff])
    | (refine AWP.ret ?_; try dsimp only [thn, inBlk])
    | (refine AWP.condT ?_ ?_; (focus (simp [go_sem, hL0, hL0', p0', q0, g0, h4', h4'', hs, hs', p1', q1, g1, p2', q2, g2, wx, wy, wsh, hor2, s3, hbn, hbn']; done)))
    | (refine AWP.condF ?_ ?_; (focus (simp [go_sem, hL0, hL0', p0', q0, g0, h4', h4'', hs, hs', p1', q1, g1, p2', q2, g2, wx, wy, wsh, hor2, s3, hbn, hbn']; done)))
    | (apply AWP.rE; (focus (simp [go_sem, hL0, hL0', p0', q0, g0, h4', h4'', hs, hs', p1', q1, g1, p2', q2, g2, wx, wy, wsh, hor2, s3, hbn, hbn']; exact ⟨rfl, rfl⟩)); try dsimp only [thn, inBlk])
    | (apply AWP.dE hmix [.n 0 [0], .n 1 [16], .n 2 [17], .n 3 [18], .n 4 [19], .n 5 [0], .n 6 [21], .n 7 [22], .n 8 [23], .n 9 [20, 24], .n 10 [25]]; (focus kernel_rfl); (focus (simp [go_sem, hL0, hL0', p0', q0, g0, h4', h4'', hs, hs', p1', q1, g1, p2', q2, g2, wx, wy, wsh, hor2, s3, hbn, hbn']; exact ⟨rfl, rfl⟩)); try dsimp only [thn, inBlk])
    | fail)
  refine AWP.draw hmix [.n 0 [2], .n 1 [0], .n 2 [33], .n 3 [34], .n 4 [35], .n 5 [5], .n 6 [4], .n 7 [37, 38], .w 8 [39] [3, 4], .n 9 [36, 40], .n 10 [41], .w 11 [32, 42] [], .n 12 [43]] (by kernel_rfl) ?_
  refine awpD_callR 8 (by rfl) (by rfl) (by simp [go_sem, p0', q0, g0, wc, s4]; exact ⟨rfl, rfl, rfl⟩) (by rfl) (by rfl) (by simp [go_sem]) (by simp [go_sem, p0', q0, g0, wc, s4]; exact ⟨rfl, rfl⟩) (by kernel_rfl) ?_
  have hpl : (body.take n).length = n := by simp; omega
  refine (clone_calls (bs := body.take n) k1 (fun hh o => (piece4 (b3a hh o.tail)).2) (by omega)).mono ?_
  rintro r h5 ⟨a5, c5, rfl, k5⟩
  have hb5 := hy h5 k5.tail.tail
  obtain ⟨i9, o9, r9, e9, z9, ti9, ro9, p9, q9, g9⟩ := hb5.at (P := Try.prog) (t := 24) Try.underlying24 tsz5 (j := 0) (by simp) (kd := .i64)
  cases p0.symm.trans p9
  simp only [List.getElem_cons_zero] at g9
  obtain ⟨s9, _⟩ := piece4 (b3a h5 k5.tail.tail)
  refine ⟨by simp [still, go_sem, p0', q0, g0, q9, g9, wc, s4, s9], ?_⟩
  obtain ⟨a6, c6, h6, e6, k6⟩ := k5.b1.brecs_app (P := Try.prog) (t := 29) (xt := 29) (fs := fs) (x := (c.toNat : Int)) (bs := body.take n) (i := h5.next) Try.underlying29 tsz46 tby46 tz46 nI29 (by omega) rfl rfl rfl rfl (by omega)
  rw [hpl] at e6 ⊢
  simp only [pre, List.cons_append, List.nil_append] at e6
  refine awpD_writeR 2 (by rfl) (by rfl) (by simp [go_sem, p0', q9, g9, wc, s9, e6]; exact ⟨rfl, rfl, rfl⟩) (by rfl) (by rfl) (by simp [go_sem]) (by simp [go_sem, p0', q9, g9, wc, s9, e6]; exact ⟨rfl, rfl⟩) (by simp [still, go_sem, p0', q9, g9, wc, s9, e6]) ?_
  refine awpD_restR (by rfl) (by simp [go_sem]; exact ⟨rfl, rfl, rfl⟩) ?_; try dsimp only [thn, inBlk]
  obtain ⟨s5, _⟩ := piece5 (b3a h6 k6.tail)
  have b5a : ∀ hh, Own O hh R → Bytes hh (sliceV 1 n body.length (.slice za body.length zc)) (body.drop n) := fun hh o => (piece5 (b3a hh o)).2
  obtain ⟨ua, uc, hu⟩ := (b5a h6 k6.tail).val
  rw [hu] at s5 b5a
  (repeat' first
    | refine AWP.seq ?_
    | refine AWP.block ?_
    | (refine AWP.skip ?_; try dsimp only [thn, inBlk])
    | (refine AWP.exit ?_; try simp only [thn, inBlk, if_true, reduceIte, Nat.reduceEqDiff])
    | (refine AWP.ret ?_; try dsimp only [thn, inBlk])
    | (refine AWP.condT ?_ ?_; (focus (simp [go_sem, s5]; done)))
    | (refine AWP.condF ?_ ?_; (focus (simp [go_sem, s5]; done)))
    | (apply AWP.rE; (focus (simp [go_sem, s5]; exact ⟨rfl, rfl⟩)); try dsimp only [thn, inBlk])
    | (apply AWP.dE hmix [.n 0 [0], .n 1 [16], .n 2 [17], .n 3 [18], .n 4 [19], .n 5 [0], .n 6 [21], .n 7 [22], .n 8 [23], .n 9 [20, 24], .n 10 [25]]; (focus kernel_rfl); (focus (simp [go_sem, s5]; exact ⟨rfl, rfl⟩)); try dsimp only [thn, inBlk])
    | fail)
  refine ⟨(body.drop n).length, by rw [List.length_drop]; omega, body.drop n, ua, uc, fs ++ [((c.toNat : Int), body.take n)], a6, c6, rfl, ?_, hhp, ?_, b5a, ?_⟩
  · simp [go_sem]
  · rw [List.length_append, List.length_drop, List.length_singleton]; omega
  · rw [List.length_append]; exact k6
end L01
