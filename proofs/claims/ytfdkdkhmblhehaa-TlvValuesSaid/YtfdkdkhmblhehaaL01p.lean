import Derived.Test.YtfdkdkhmblhehaaL01o
open Go Ab Go.Proofs
namespace L01
set_option autoImplicit false
set_option linter.unusedSimpArgs false
set_option linter.unusedVariables false

theorem at_drop {bs t : List UInt8} {j q : Nat} (e : bs.drop j = t) (hq : j + q < bs.length) : ∃ h : q < t.length, bs[j + q] = t[q] := by
  subst e
  exact ⟨by simp; omega, by simp⟩


set_option maxHeartbeats 4000000 in
theorem refSplit_calls {O : Old} {h : AHeap} {R : List Chunk} {xv : Value} {bs : List UInt8} (k : Own O h R) (hx : ∀ h, Own O h R → Bytes h xv bs) (hm : bs.length ≤ 1000000) :
    ACalls Try.prog 21 #[xv] h fun v h' => ∃ a cap, v = .tuple #[.slice a (T1.splitGo [] bs).1.length cap, .int .i64 (T1.splitGo [] bs).2] ∧ Own O h' (fch (.slice a (T1.splitGo [] bs).1.length cap) (T1.splitGo [] bs).1 :: R) := by
  obtain ⟨xa, xc, rfl⟩ := (hx h k).val
  refine ACalls.of_awp (args := [.slice xa bs.length xc]) (n := 83) Try.func21 rfl rfl (by show 1 ≤ 83; omega) ?_
  (repeat' first
    | refine AWP.seq ?_
    | refine AWP.block ?_
    | (refine AWP.skip ?_; try dsimp only [thn, inBlk])
    | (refine AWP.exit ?_; try simp only [thn, inBlk, if_true, reduceIte, Nat.reduceEqDiff])
    | (refine AWP.ret ?_; try dsimp only [thn, inBlk])
    | (refine AWP.condT ?_ ?_; (focus (simp [go_sem]; done)))
    | (refine AWP.condF ?_ ?_; (focus (simp [go_sem]; done)))
    | (apply AWP.rE; (focus (simp [go_sem]; exact ⟨rfl, rfl⟩)); try dsimp only [thn, inBlk])
    | (apply AWP.dE hmix [.n 0 [6], .n 1 [23], .n 2 [24], .n 3 [0, 25], .n 4 [5, 25], .n 5 [27, 25], .n 6 [26, 28, 25], .n 7 [29, 25], .n 8 [30, 25], .n 9 [31, 25], .n 10 [0, 25], .n 11 [5, 25], .n 12 [34, 25], .n 13 [33, 35, 25], .n 14 [36, 25], .n 15 [37, 25], .n 16 [32, 38, 25], .n 17 [6, 25], .n 18 [40, 25], .n 19 [39, 41, 25], .n 20 [25, 42]]; (focus kernel_rfl); (focus (simp [go_sem]; exact ⟨rfl, rfl⟩)); try dsimp only [thn, inBlk])
    | (apply AWP.dE hmix [.n 0 [0], .n 1 [5], .n 2 [46], .n 3 [45, 47], .n 4 [48], .n 5 [49], .n 6 [50], .n 7 [0], .n 8 [5], .n 9 [53], .n 10 [52, 54], .n 11 [55], .n 12 [56], .n 13 [51, 57], .n 14 [58]]; (focus kernel_rfl); (focus (simp [go_sem]; exact ⟨rfl, rfl⟩)); try dsimp only [thn, inBlk])
    | fail)
  refine AWP.loopR [0, 4, 5] (fun m s h' => ∃ (j : Nat) (fs : List F) (a : Option Addr) (cap : Nat), j ≤ bs.length ∧ m = bs.length - j ∧ s = ⟨83, [(0, .slice xa bs.length xc), (4, .slice a fs.length cap), (5, .int .i64 j)]⟩ ∧
    T1.splitGo [] bs = T1.splitGo fs (bs.drop j) ∧ fs.length ≤ j ∧ Own O h' (fch (.slice a fs.length cap) fs :: R)) ?_ ?_
  · refine ⟨_, 0, [], some ⟨h.next, 0, none⟩, 0, by omega, rfl, rfl, by simp, by simp, ?_⟩
    exact brecs_iff.2 ⟨[], rfl, (k.push (.row [] 46 2 true false)).os_mk (n := 0) (cap := 0) (off := 0) (cs := []) (by omega) (by simp) (by simp)⟩
  rintro m s h' ⟨j, fs, a, cap, hj, rfl, rfl, hp, hf, k1⟩
  by_cases hj0 : j < bs.length
  rotate_left
  · have hj1 : ¬ (j : Int) < bs.length := by omega
    obtain rfl : j = bs.length := by omega
    rw [List.drop_length, T1.splitGo] at hp
    rw [hp]
    (repeat' first
      | refine AWP.seq ?_
      | refine AWP.block ?_
      | (refine AWP.skip ?_; try dsimp only [thn, inBlk])
      | (refine AWP.exit ?_; try simp only [thn, inBlk, if_true, reduceIte, Nat.reduceEqDiff])
      | (refine AWP.ret ?_; try dsimp only [thn, inBlk])
      | (refine AWP.condT ?_ ?_; (focus (simp [go_sem, hj1]; done)))
      | (refine AWP.condF ?_ ?_; (focus (simp [go_sem, hj1]; done)))
      | (apply AWP.rE; (focus (simp [go_sem, hj1]; exact ⟨rfl, rfl⟩)); try dsimp only [thn, inBlk])
      | (apply AWP.dE hmix [.n 0 [6], .n 1 [23], .n 2 [24], .n 3 [0, 25], .n 4 [5, 25], .n 5 [27, 25], .n 6 [26, 28, 25], .n 7 [29, 25], .n 8 [30, 25], .n 9 [31, 25], .n 10 [0, 25], .n 11 [5, 25], .n 12 [34, 25], .n 13 [33, 35, 25], .n 14 [36, 25], .n 15 [37, 25], .n 16 [32, 38, 25], .n 17 [6, 25], .n 18 [40, 25], .n 19 [39, 41, 25], .n 20 [25, 42]]; (focus kernel_rfl); (focus (simp [go_sem, hj1]; exact ⟨rfl, rfl⟩)); try dsimp only [thn, inBlk])
      | (apply AWP.dE hmix [.n 0 [0], .n 1 [5], .n 2 [46], .n 3 [45, 47], .n 4 [48], .n 5 [49], .n 6 [50], .n 7 [0], .n 8 [5], .n 9 [53], .n 10 [52, 54], .n 11 [55], .n 12 [56], .n 13 [51, 57], .n 14 [58]]; (focus kernel_rfl); (focus (simp [go_sem, hj1]; exact ⟨rfl, rfl⟩)); try dsimp only [thn, inBlk])
      | fail)
    simp [bodyQ, thn, inBlk, resA, resV, go_sem]
    exact ⟨_, _, ⟨rfl, rfl⟩, k1⟩
  have hj1 : (j : Int) < bs.length := by omega
  obtain ⟨t, ht⟩ : ∃ t, bs.drop j = t := ⟨_, rfl⟩
  rw [ht] at hp
  have hlt : t.length = bs.length - j := by rw [← ht]; simp
  have hb := hx h' k1.tail
  obtain ⟨j1, hj1e⟩ : ∃ j1, j1 = j + 1 := ⟨_, rfl⟩
  obtain ⟨j2, hj2e⟩ : ∃ j1, j1 = j + 2 := ⟨_, rfl⟩
  obtain ⟨j3, hj3e⟩ : ∃ j1, j1 = j + 3 := ⟨_, rfl⟩
  have w1 : IntKind.i64.wrap ((j : Int) + 1) = j1 := by rw [wI64 (by omega) (by omega)]; omega
  have w2 : IntKind.i64.wrap ((j : Int) + 2) = j2 := by rw [wI64 (by omega) (by omega)]; omega
  have w3 : IntKind.i64.wrap ((j : Int) + 3) = j3 := by rw [wI64 (by omega) (by omega)]; omega
  have wl : IntKind.i64.wrap ((bs.length : Int) - j) = t.length := by rw [wI64 (by omega) (by omega)]; omega
  obtain ⟨TL, hTL⟩ : ∃ TL, TL = t.length := ⟨_, rfl⟩
  rw [← hTL] at wl
  rcases t with _ | ⟨c, t⟩
  · simp at hlt; omega
  obtain ⟨i0, o0, r0, e0, z0, ti0, ro0, p0, q0, g0⟩ := hb.at (P := Try.prog) (t := 24) Try.underlying24 tsz5 (j := j) hj0 (kd := .i64)
  obtain ⟨_, hc0⟩ := at_drop (q := 0) ht hj0
  have hcj : bs[j] = c := hc0
  clear hc0
  rw [hcj] at g0
  by_cases h4 : c = 0
  · have h4' : ((c.toNat : Int) == 0) = true := by rw [h4]; rfl
    rw [h4, T1.splitGo_zero] at hp
    have kf : Own O _ (fch (.slice (some ⟨h'.next, 0, none⟩) 0 0) [] :: _) := brecs_iff.2 ⟨[], rfl, (k1.push (.row [] 46 2 true false)).os_mk (n := 0) (cap := 0) (off := 0) (cs := []) (Nat.le_refl _) (by simp) (by rfl)⟩
    rw [hp]
    (repeat' first
      | refine AWP.seq ?_
      | refine AWP.block ?_
      | (refine AWP.skip ?_; try dsimp only [thn, inBlk])
      | (refine AWP.exit ?_; try simp only [thn, inBlk, if_true, reduceIte, Nat.reduceEqDiff])
      | (refine AWP.ret ?_; try dsimp only [thn, inBlk])
      | (refine AWP.condT ?_ ?_; (focus (simp [go_sem, hj1,p0,q0,g0,h4']; done)))
      | (refine AWP.condF ?_ ?_; (focus (simp [go_sem, hj1,p0,q0,g0,h4']; done)))
      | (apply AWP.rE; (focus (simp [go_sem, hj1,p0,q0,g0,h4']; exact ⟨rfl, rfl⟩)); try dsimp only [thn, inBlk])
      | (apply AWP.dE hmix [.n 0 [6], .n 1 [23], .n 2 [24], .n 3 [0, 25], .n 4 [5, 25], .n 5 [27, 25], .n 6 [26, 28, 25], .n 7 [29, 25], .n 8 [30, 25], .n 9 [31, 25], .n 10 [0, 25], .n 11 [5, 25], .n 12 [34, 25], .n 13 [33, 35, 25], .n 14 [36, 25], .n 15 [37, 25], .n 16 [32, 38, 25], .n 17 [6, 25], .n 18 [40, 25], .n 19 [39, 41, 25], .n 20 [25, 42]]; (focus kernel_rfl); (focus (simp [go_sem, hj1,p0,q0,g0,h4']; exact ⟨rfl, rfl⟩)); try dsimp only [thn, inBlk])
      | (apply AWP.dE hmix [.n 0 [0], .n 1 [5], .n 2 [46], .n 3 [45, 47], .n 4 [48], .n 5 [49], .n 6 [50], .n 7 [0], .n 8 [5], .n 9 [53], .n 10 [52, 54], .n 11 [55], .n 12 [56], .n 13 [51, 57], .n 14 [58]]; (focus kernel_rfl); (focus (simp [go_sem, hj1,p0,q0,g0,h4']; exact ⟨rfl, rfl⟩)); try dsimp only [thn, inBlk])
      | fail)
    simp [bodyQ, thn, inBlk, resA, resV, go_sem]
    exact ⟨_, _, ⟨rfl, rfl⟩, kf.d1⟩
  have h4' : ((c.toNat : Int) == 0) = false := by
    have : c.toNat ≠ 0 := fun e => h4 (by rw [← UInt8.toNat_inj]; simpa using e)
    simp; omega
  have h4'' : ¬ c.toNat = 0 := fun e => h4 (by rw [← UInt8.toNat_inj]; simpa using e)
  have hTL3 : TL < 3 ∨ 3 ≤ TL := by omega
  by_cases hs : TL < 3
  · have hs' : (TL : Int) < 3 := by omega
    have hp : T1.splitGo [] bs = ([], 20) := by
      rcases t with _ | ⟨x, _ | ⟨y, body⟩⟩
      · rw [hp, T1.splitGo_one _ h4]
      · rw [hp, T1.splitGo_two _ h4]
      · simp at hTL; omega
    have kf : Own O _ (fch (.slice (some ⟨h'.next, 0, none⟩) 0 0) [] :: _) := brecs_iff.2 ⟨[], rfl, (k1.push (.row [] 46 2 true false)).os_mk (n := 0) (cap := 0) (off := 0) (cs := []) (Nat.le_refl _) (by simp) (by rfl)⟩
    rw [hp]
    (repeat' first
      | refine AWP.seq ?_
      | refine AWP.block ?_
      | (refine AWP.skip ?_; try dsimp only [thn, inBlk])
      | (refine AWP.exit ?_; try simp only [thn, inBlk, if_true, reduceIte, Nat.reduceEqDiff])
      | (refine AWP.ret ?_; try dsimp only [thn, inBlk])
      | (refine AWP.condT ?_ ?_; (focus (simp [go_sem, hj1,p0,q0,g0,h4',h4'',hs,hs',wl]; done)))
      | (refine AWP.condF ?_ ?_; (focus (simp [go_sem, hj1,p0,q0,g0,h4',h4'',hs,hs',wl]; done)))
      | (apply AWP.rE; (focus (simp [go_sem, hj1,p0,q0,g0,h4',h4'',hs,hs',wl]; exact ⟨rfl, rfl⟩)); try dsimp only [thn, inBlk])
      | (apply AWP.dE hmix [.n 0 [6], .n 1 [23], .n 2 [24], .n 3 [0, 25], .n 4 [5, 25], .n 5 [27, 25], .n 6 [26, 28, 25], .n 7 [29, 25], .n 8 [30, 25], .n 9 [31, 25], .n 10 [0, 25], .n 11 [5, 25], .n 12 [34, 25], .n 13 [33, 35, 25], .n 14 [36, 25], .n 15 [37, 25], .n 16 [32, 38, 25], .n 17 [6, 25], .n 18 [40, 25], .n 19 [39, 41, 25], .n 20 [25, 42]]; (focus kernel_rfl); (focus (simp [go_sem, hj1,p0,q0,g0,h4',h4'',hs,hs',wl]; exact ⟨rfl, rfl⟩)); try dsimp only [thn, inBlk])
      | (apply AWP.dE hmix [.n 0 [0], .n 1 [5], .n 2 [46], .n 3 [45, 47], .n 4 [48], .n 5 [49], .n 6 [50], .n 7 [0], .n 8 [5], .n 9 [53], .n 10 [52, 54], .n 11 [55], .n 12 [56], .n 13 [51, 57], .n 14 [58]]; (focus kernel_rfl); (focus (simp [go_sem, hj1,p0,q0,g0,h4',h4'',hs,hs',wl]; exact ⟨rfl, rfl⟩)); try dsimp only [thn, inBlk])
      | fail)
    simp [bodyQ, thn, inBlk, resA, resV, go_sem]
    exact ⟨_, _, ⟨rfl, rfl⟩, kf.d1⟩
  have hs' : ¬ (TL : Int) < 3 := by omega
  obtain ⟨x, y, body, rfl⟩ : ∃ x y body, t = x :: y :: body := by
    rcases t with _ | ⟨x, _ | ⟨y, body⟩⟩
    · simp at hTL; omega
    · simp at hTL; omega
    · exact ⟨_, _, _, rfl⟩
  have hbl : body.length + 3 = bs.length - j := by rw [← hlt]; simp
  obtain ⟨i1, o1, r1, e1, z1, ti1, ro1, p1, q1, g1⟩ := hb.at (P := Try.prog) (t := 24) Try.underlying24 tsz5 (j := j1) (by omega) (kd := .i64)
  obtain ⟨i2, o2, r2, e2, z2, ti2, ro2, p2, q2, g2⟩ := hb.at (P := Try.prog) (t := 24) Try.underlying24 tsz5 (j := j2) (by omega) (kd := .i64)
  have hc1 : bs[j1]'(by omega) = x := by obtain ⟨_, e⟩ := at_drop (q := 1) ht (by omega); subst hj1e; exact e
  have hc2 : bs[j2]'(by omega) = y := by obtain ⟨_, e⟩ := at_drop (q := 2) ht (by omega); subst hj2e; exact e
  rw [hc1] at g1
  rw [hc2] at g2
  have lx := x.toNat_lt
  have ly := y.toNat_lt
  obtain ⟨m, hm256⟩ : ∃ m : Nat, m = 256 * x.toNat := ⟨_, rfl⟩
  obtain ⟨n, hnn⟩ : ∃ n : Nat, n = 256 * x.toNat + y.toNat := ⟨_, rfl⟩
  have wx : IntKind.i64.wrap (x.toNat : Int) = x.toNat := wI64 (by omega) (by omega)
  have wy : IntKind.i64.wrap (y.toNat : Int) = y.toNat := wI64 (by omega) (by omega)
  have wc : IntKind.i64.wrap (c.toNat : Int) = c.toNat := by have := c.toNat_lt; exact wI64 (by omega) (by omega)
  have w8 : IntKind.i64.wrap (256 * (x.toNat : Int)) = m := by rw [wI64 (by omega) (by omega)]; omega
  have wo : IntKind.i64.wrap ((m : Int) + y.toNat) = n := by rw [wI64 (by omega) (by omega)]; omega
  have wt : IntKind.i64.wrap ((TL : Int) - 3) = body.length := by rw [wI64 (by omega) (by omega)]; simp at hTL; omega
  by_cases hbn : body.length < n
  · have hbn' : (body.length : Int) < n := by omega
    rw [T1.splitGo_big _ h4 (by rw [← hnn]; exact hbn)] at hp
    have kf : Own O _ (fch (.slice (some ⟨h'.next, 0, none⟩) 0 0) [] :: _) := brecs_iff.2 ⟨[], rfl, (k1.push (.row [] 46 2 true false)).os_mk (n := 0) (cap := 0) (off := 0) (cs := []) (Nat.le_refl _) (by simp) (by rfl)⟩
    rw [hp]
    (repeat' first
      | refine AWP.seq ?_
      | refine AWP.block ?_
      | (refine AWP.skip ?_; try dsimp only [thn, inBlk])
      | (refine AWP.exit ?_; try simp only [thn, inBlk, if_true, reduceIte, Nat.reduceEqDiff])
      | (refine AWP.ret ?_; try dsimp only [thn, inBlk])
      | (refine AWP.condT ?_ ?_; (focus (simp [go_sem, hj1,p0,q0,g0,h4',h4'',hs,hs',wl,w1,w2,p1,q1,g1,p2,q2,g2,wx,wy,w8,wo,wt,hbn,hbn']; done)))
      | (refine AWP.condF ?_ ?_; (focus (simp [go_sem, hj1,p0,q0,g0,h4',h4'',hs,hs',wl,w1,w2,p1,q1,g1,p2,q2,g2,wx,wy,w8,wo,wt,hbn,hbn']; done)))
      | (apply AWP.rE; (focus (simp [go_sem, hj1,p0,q0,g0,h4',h4'',hs,hs',wl,w1,w2,p1,q1,g1,p2,q2,g2,wx,wy,w8,wo,wt,hbn,hbn']; exact ⟨rfl, rfl⟩)); try dsimp only [thn, inBlk])
      | (apply AWP.dE hmix [.n 0 [6], .n 1 [23], .n 2 [24], .n 3 [0, 25], .n 4 [5, 25], .n 5 [27, 25], .n 6 [26, 28, 25], .n 7 [29, 25], .n 8 [30, 25], .n 9 [31, 25], .n 10 [0, 25], .n 11 [5, 25], .n 12 [34, 25], .n 13 [33, 35, 25], .n 14 [36, 25], .n 15 [37, 25], .n 16 [32, 38, 25], .n 17 [6, 25], .n 18 [40, 25], .n 19 [39, 41, 25], .n 20 [25, 42]]; (focus kernel_rfl); (focus (simp [go_sem, hj1,p0,q0,g0,h4',h4'',hs,hs',wl,w1,w2,p1,q1,g1,p2,q2,g2,wx,wy,w8,wo,wt,hbn,hbn']; exact ⟨rfl, rfl⟩)); try dsimp only [thn, inBlk])
      | (apply AWP.dE hmix [.n 0 [0], .n 1 [5], .n 2 [46], .n 3 [45, 47], .n 4 [48], .n 5 [49], .n 6 [50], .n 7 [0], .n 8 [5], .n 9 [53], .n 10 [52, 54], .n 11 [55], .n 12 [56], .n 13 [51, 57], .n 14 [58]]; (focus kernel_rfl); (focus (simp [go_sem, hj1,p0,q0,g0,h4',h4'',hs,hs',wl,w1,w2,p1,q1,g1,p2,q2,g2,wx,wy,w8,wo,wt,hbn,hbn']; exact ⟨rfl, rfl⟩)); try dsimp only [thn, inBlk])
      | fail)
    simp [bodyQ, thn, inBlk, resA, resV, go_sem]
    exact ⟨_, _, ⟨rfl, rfl⟩, kf.d1⟩
  have hbn' : ¬ (body.length : Int) < n := by omega
  rw [T1.splitGo_step _ h4 (by rw [← hnn]; exact hbn), ← hnn] at hp
  obtain ⟨N, hN⟩ : ∃ N : Nat, N = j3 + n := ⟨_, rfl⟩
  have wN : IntKind.i64.wrap ((j3 : Int) + n) = N := by rw [wI64 (by omega) (by omega)]; omega
  (repeat' first
    | refine AWP.seq ?_
    | refine AWP.block ?_
    | (refine AWP.skip ?_; try dsimp only [thn, inBlk])
    | (refine AWP.exit ?_; try simp only [thn, inBlk, if_true, reduceIte, Nat.reduceEqDiff])
    | (refine AWP.ret ?_; try dsimp only [thn, inBlk])
    | (refine AWP.condT ?_ ?_; (focus (simp [go_sem, hj1, p0, q0, g0, h4', h4'', hs, hs', wl, w1, w2, p1, q1, g1, p2, q2, g2, wx, wy, w8, wo, wt, hbn, hbn']; done)))
    | (refine AWP.condF ?_ ?_; (focus (simp [go_sem, hj1, p0, q0, g0, h4', h4'', hs, hs', wl, w1, w2, p1, q1, g1, p2, q2, g2, wx, wy, w8, wo, wt, hbn, hbn']; done)))
    | (apply AWP.rE; (focus (simp [go_sem, hj1, p0, q0, g0, h4', h4'', hs, hs', wl, w1, w2, p1, q1, g1, p2, q2, g2, wx, wy, w8, wo, wt, hbn, hbn']; exact ⟨rfl, rfl⟩)); try dsimp only [thn, inBlk])
    | (apply AWP.dE hmix [.n 0 [6], .n 1 [23], .n 2 [24], .n 3 [0, 25], .n 4 [5, 25], .n 5 [27, 25], .n 6 [26, 28, 25], .n 7 [29, 25], .n 8 [30, 25], .n 9 [31, 25], .n 10 [0, 25], .n 11 [5, 25], .n 12 [34, 25], .n 13 [33, 35, 25], .n 14 [36, 25], .n 15 [37, 25], .n 16 [32, 38, 25], .n 17 [6, 25], .n 18 [40, 25], .n 19 [39, 41, 25], .n 20 [25, 42]]; (focus kernel_rfl); (focus (simp [go_sem, hj1, p0, q0, g0, h4', h4'', hs, hs', wl, w1, w2, p1, q1, g1, p2, q2, g2, wx, wy, w8, wo, wt, hbn, hbn']; exact ⟨rfl, rfl⟩)); try dsimp only [thn, inBlk])
    | (apply AWP.dE hmix [.n 0 [0], .n 1 [5], .n 2 [46], .n 3 [45, 47], .n 4 [48], .n 5 [49], .n 6 [50], .n 7 [0], .n 8 [5], .n 9 [53], .n 10 [52, 54], .n 11 [55], .n 12 [56], .n 13 [51, 57], .n 14 [58]]; (focus kernel_rfl); (focus (simp [go_sem, hj1, p0, q0, g0, h4', h4'', hs, hs', wl, w1, w2, p1, q1, g1, p2, q2, g2, wx, wy, w8, wo, wt, hbn, hbn']; exact ⟨rfl, rfl⟩)); try dsimp only [thn, inBlk])
    | fail)
  have hbody : (bs.take N).drop j3 = body.take n := by
    rw [hN, hj3e, List.drop_take, show j + 3 + n - (j + 3) = n by omega, ← List.drop_drop, ht]; rfl
  have hpl : (body.take n).length = n := by simp; omega
  have hsrc : ∀ hh, Own O hh R → Bytes hh (sliceV 1 j3 N (.slice xa bs.length xc)) (body.take n) := fun hh kk => by
    have := ((hx hh kk).piece (P := Try.prog) (t := 24) (e := 5) Try.underlying24 tsz5 (lo := j3) (hi := N) (by omega) (by omega) (l := some (.int .i64 (j3 : Int))) (u := some (.int .i64 (N : Int))) (.inr ⟨.i64, rfl⟩) (.inr ⟨.i64, rfl⟩)).2
    rwa [hbody] at this
  have k2 : Own O _ (ob 5 (.slice (some ⟨h'.next, 0, none⟩) 0 0) [] :: fch (.slice a fs.length cap) fs :: R) := (k1.push (.row [] 5 1 true false)).row_any (n := 0) rfl
  obtain ⟨s1, s2⟩ := (hx _ k2.tail.tail).piece (P := Try.prog) (t := 24) (e := 5) Try.underlying24 tsz5 (lo := j3) (hi := N) (by omega) (by omega) (l := some (.int .i64 (j3 : Int))) (u := some (.int .i64 (N : Int))) (.inr ⟨.i64, rfl⟩) (.inr ⟨.i64, rfl⟩)
  obtain ⟨a3, c3, h3, e3, k3⟩ := k2.appB (P := Try.prog) (t := 24) (xt := 24) Try.underlying24 tsz5 tby5 tz5 nI24 (hsrc _ k2.tail.tail).src (by simp; omega)
  rw [List.nil_append, List.length_nil, Nat.zero_add] at k3
  rw [hpl, List.length_nil, Nat.zero_add] at e3
  obtain ⟨j0, u0, r0', e0', z0', ti0', ro0', p0', q0', g0'⟩ := (hx h3 k3.tail.tail).at (P := Try.prog) (t := 24) Try.underlying24 tsz5 (j := j) hj0 (kd := .i64)
  cases p0.symm.trans p0'
  rw [hcj] at g0'
  obtain ⟨a4, c4, h5, e5, k5⟩ := k3.b1.brecs_app (P := Try.prog) (t := 29) (xt := 29) (fs := fs) (x := (c.toNat : Int)) (bs := body.take n) (i := h3.next) Try.underlying29 tsz46 tby46 tz46 nI29 (by omega) rfl rfl rfl rfl (by omega)
  rw [hpl] at e5
  simp only [pre, List.cons_append, List.nil_append] at e5
  refine AWP.draw hmix [.n 0 [4], .n 1 [0], .n 2 [5], .n 3 [60, 61], .n 4 [62], .n 5 [63], .n 6 [], .n 7 [0], .n 8 [5], .n 9 [67], .n 10 [5], .n 11 [69], .n 12 [7], .n 13 [70, 71], .n 14 [66, 68, 72], .w 15 [65, 73] [4, 5], .n 16 [64, 74], .n 17 [75], .w 18 [59, 76] [], .n 19 [77]] (by kernel_rfl) ?_
  refine awpD_writeR 15 (by rfl) (by rfl) (by simp [go_sem, p0, q0, g0, wc, w3, wN, s1, e3, q0', g0']; exact ⟨rfl, rfl, rfl⟩) (by rfl) (by rfl) (by simp [go_sem]) (by simp [go_sem, p0, q0, g0, wc, w3, wN, s1, e3, q0', g0']; exact ⟨rfl, rfl⟩) (by simp [still, go_sem, p0, q0, g0, wc, w3, wN, s1, e3, q0', g0']) ?_
  refine awpD_writeR 2 (by rfl) (by rfl) (by simp [go_sem, e5, q0', g0', wc]; exact ⟨rfl, rfl, rfl⟩) (by rfl) (by rfl) (by simp [go_sem]) (by simp [go_sem, e5, q0', g0', wc]; exact ⟨rfl, rfl⟩) (by simp [still, go_sem, e5, q0', g0', wc]) ?_
  refine awpD_restR (by rfl) (by simp [go_sem]; exact ⟨rfl, rfl, rfl⟩) ?_; try dsimp only [thn, inBlk]
  have wn3 : IntKind.i64.wrap (3 + (n : Int)) = ((3 + n : Nat) : Int) := by rw [wI64 (by omega) (by omega)]; omega
  obtain ⟨N2, hN2⟩ : ∃ N : Nat, N = 3 + n := ⟨_, rfl⟩
  rw [← hN2] at wn3
  have wj : IntKind.i64.wrap ((j : Int) + N2) = N := by rw [wI64 (by omega) (by omega)]; omega
  (repeat' first
    | refine AWP.seq ?_
    | refine AWP.block ?_
    | (refine AWP.skip ?_; try dsimp only [thn, inBlk])
    | (refine AWP.exit ?_; try simp only [thn, inBlk, if_true, reduceIte, Nat.reduceEqDiff])
    | (refine AWP.ret ?_; try dsimp only [thn, inBlk])
    | (refine AWP.condT ?_ ?_; (focus (simp [go_sem, wn3, wj]; done)))
    | (refine AWP.condF ?_ ?_; (focus (simp [go_sem, wn3, wj]; done)))
    | (apply AWP.rE; (focus (simp [go_sem, wn3, wj]; exact ⟨rfl, rfl⟩)); try dsimp only [thn, inBlk])
    | (apply AWP.dE hmix [.n 0 [6], .n 1 [23], .n 2 [24], .n 3 [0, 25], .n 4 [5, 25], .n 5 [27, 25], .n 6 [26, 28, 25], .n 7 [29, 25], .n 8 [30, 25], .n 9 [31, 25], .n 10 [0, 25], .n 11 [5, 25], .n 12 [34, 25], .n 13 [33, 35, 25], .n 14 [36, 25], .n 15 [37, 25], .n 16 [32, 38, 25], .n 17 [6, 25], .n 18 [40, 25], .n 19 [39, 41, 25], .n 20 [25, 42]]; (focus kernel_rfl); (focus (simp [go_sem, wn3, wj]; exact ⟨rfl, rfl⟩)); try dsimp only [thn, inBlk])
    | (apply AWP.dE hmix [.n 0 [0], .n 1 [5], .n 2 [46], .n 3 [45, 47], .n 4 [48], .n 5 [49], .n 6 [50], .n 7 [0], .n 8 [5], .n 9 [53], .n 10 [52, 54], .n 11 [55], .n 12 [56], .n 13 [51, 57], .n 14 [58]]; (focus kernel_rfl); (focus (simp [go_sem, wn3, wj]; exact ⟨rfl, rfl⟩)); try dsimp only [thn, inBlk])
    | fail)
  have hd : bs.drop N = body.drop n := by rw [hN, hj3e, ← List.drop_drop, ← List.drop_drop, ht]; rfl
  refine ⟨bs.length - N, by omega, N, fs ++ [((c.toNat : Int), body.take n)], a4, c4, by omega, rfl, by simp [go_sem], ?_, by simp; omega, ?_⟩
  · rw [hp, hd]
  · rw [List.length_append]; exact k5
end L01
