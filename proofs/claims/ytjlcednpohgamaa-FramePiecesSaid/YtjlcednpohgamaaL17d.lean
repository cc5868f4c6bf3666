import Derived.Test.YtjlcednpohgamaaL17c
open Go Ab Go.Proofs
namespace L17
set_option autoImplicit false
set_option linter.unusedSimpArgs false
set_option linter.unusedVariables false

theorem parse_nil : parse [] = ([], [], 0) := parse_none (r' := []) rfl

/-- What the reference's Read says is left. -/
def left (p : List Fr × List UInt8 × Int) : Nat := if p.2.2 = 0 then p.2.1.length else 0

theorem at_drop {bs t : List UInt8} {j q : Nat} (e : bs.drop j = t) (hq : j + q < bs.length) : ∃ h : q < t.length, bs[j + q] = t[q] := by
  subst e
  exact ⟨by simp; omega, by simp⟩

set_option maxHeartbeats 4000000 in
theorem read_calls {O : Old} {h : AHeap} {R : List Chunk} {xv : Value} {bs : List UInt8} (k : Own O h R) (hx : ∀ h, Own O h R → Bytes h xv bs) (hm : bs.length ≤ 1000000000) :
    ACalls Try.prog 11 #[xv] h fun v h' => ∃ a cap, v = .tuple #[.slice a (parse bs).1.length cap, .int .i64 (left (parse bs)), .int .i64 (parse bs).2.2] ∧ Own O h' (frs (.slice a (parse bs).1.length cap) (parse bs).1 :: R) := by
  obtain ⟨xa, xc, rfl⟩ := (hx h k).val
  refine ACalls.of_awp (args := [.slice xa bs.length xc]) (n := 76) Try.func11 rfl rfl (by show 1 ≤ 76; omega) ?_
  (repeat' first
    | refine AWP.seq ?_
    | refine AWP.block ?_
    | (refine AWP.skip ?_; try dsimp only [thn, inBlk])
    | (refine AWP.exit ?_; try simp only [thn, inBlk, if_true])
    | (refine AWP.ret ?_; try dsimp only [thn, inBlk])
    | (refine AWP.condT ?_ ?_; (focus (simp [go_sem]; done)))
    | (refine AWP.condF ?_ ?_; (focus (simp [go_sem]; done)))
    | (apply AWP.rE; (focus (simp [go_sem]; exact ⟨rfl, rfl⟩)); try dsimp only [thn, inBlk])
    | (apply AWP.dE hmix [.n 0 [0], .n 1 [6], .n 2 [25], .n 3 [24, 26], .n 4 [27], .n 5 [28], .n 6 [29], .n 7 [0], .n 8 [6], .n 9 [32], .n 10 [31, 33], .n 11 [34], .n 12 [35], .n 13 [30, 36], .n 14 [37]]; (focus kernel_rfl); (focus (simp [go_sem]; exact ⟨rfl, rfl⟩)); try dsimp only [thn, inBlk])
    | fail)
  refine AWP.loopR [0, 5, 6] (fun m s h' => ∃ (j : Nat) (fs : List Fr) (a : Option Addr) (cap : Nat), j ≤ bs.length ∧ m = bs.length - j ∧ s = ⟨76, [(0, .slice xa bs.length xc), (5, .slice a fs.length cap), (6, .int .i64 j)]⟩ ∧
    parse bs = (fs ++ (parse (bs.drop j)).1, (parse (bs.drop j)).2) ∧ fs.length ≤ j ∧ Own O h' (frs (.slice a fs.length cap) fs :: R)) ?_ ?_
  · refine ⟨_, 0, [], some ⟨h.next, 0, none⟩, 0, by omega, rfl, rfl, by simp, by simp, ?_⟩
    exact brecs_iff.2 ⟨[], rfl, (k.push (.row [] 36 2 true false)).os_mk (n := 0) (cap := 0) (off := 0) (cs := []) (by omega) (by simp) (by simp)⟩
  rintro m s h' ⟨j, fs, a, cap, hj, rfl, rfl, hp, hf, k1⟩
  by_cases hj0 : j < bs.length
  rotate_left
  · have hj1 : ¬ (j : Int) < bs.length := by omega
    obtain rfl : j = bs.length := by omega
    rw [List.drop_length, parse_nil, List.append_nil] at hp
    rw [hp]
    have w0 : IntKind.i64.wrap ((bs.length : Int) - bs.length) = 0 := by simp; rfl
    (repeat' first
      | refine AWP.seq ?_
      | refine AWP.block ?_
      | (refine AWP.skip ?_; try dsimp only [thn, inBlk])
      | (refine AWP.exit ?_; try simp only [thn, inBlk, if_true])
      | (refine AWP.ret ?_; try dsimp only [thn, inBlk])
      | (refine AWP.condT ?_ ?_; (focus (simp [go_sem, hj1, w0]; done)))
      | (refine AWP.condF ?_ ?_; (focus (simp [go_sem, hj1, w0]; done)))
      | (apply AWP.rE; (focus (simp [go_sem, hj1, w0]; exact ⟨rfl, rfl⟩)); try dsimp only [thn, inBlk])
      | (apply AWP.dE hmix [.n 0 [0], .n 1 [6], .n 2 [25], .n 3 [24, 26], .n 4 [27], .n 5 [28], .n 6 [29], .n 7 [0], .n 8 [6], .n 9 [32], .n 10 [31, 33], .n 11 [34], .n 12 [35], .n 13 [30, 36], .n 14 [37]]; (focus kernel_rfl); (focus (simp [go_sem, hj1, w0]; exact ⟨rfl, rfl⟩)); try dsimp only [thn, inBlk])
      | fail)
    simp [bodyQ, thn, inBlk, resA, resV, go_sem, left]
    first | exact ⟨_, _, ⟨rfl, rfl⟩, k1⟩ | exact ⟨_, _, ⟨⟨rfl, rfl⟩, by first | rfl | simp [left]⟩, k1⟩
  have hj1 : (j : Int) < bs.length := by omega
  obtain ⟨t, ht⟩ : ∃ t, bs.drop j = t := ⟨_, rfl⟩
  rw [ht] at hp
  have hlt : t.length = bs.length - j := by rw [← ht]; simp
  have hb := hx h' k1.tail
  obtain ⟨j1, hj1e⟩ : ∃ j1, j1 = j + 1 := ⟨_, rfl⟩
  obtain ⟨j2, hj2e⟩ : ∃ j1, j1 = j + 2 := ⟨_, rfl⟩
  obtain ⟨j3, hj3e⟩ : ∃ j1, j1 = j + 3 := ⟨_, rfl⟩
  have w1 : IntKind.i64.wrap ((j : Int) + 1) = j1 := by rw [wI64 (by omega) (by omega)]; omega
  have w2 : IntKind.i64.wrap ((j : Int) + 2) = j2 := by rw [wI64 (by omega) (by omega)]; omega
  have w3 : IntKind.i64.wrap ((j : Int) + 3) = j3 := by rw [wI64 (by omega) (by omega)]; omega
  have wl : IntKind.i64.wrap ((bs.length : Int) - j) = t.length := by rw [wI64 (by omega) (by omega)]; omega
  obtain ⟨TL, hTL⟩ : ∃ TL, TL = t.length := ⟨_, rfl⟩
  rw [← hTL] at wl
  rcases t with _ | ⟨c, t⟩
  · simp at hlt; omega
  obtain ⟨i0, o0, r0, e0, z0, ti0, ro0, p0, q0, g0⟩ := hb.at (P := Try.prog) (t := 26) Try.underlying26 tsz5 (j := j) hj0 (kd := .i64)
  obtain ⟨_, hc0⟩ := at_drop (q := 0) ht hj0
  have hcj : bs[j] = c := hc0
  clear hc0
  rw [hcj] at g0
  by_cases h4 : 4 < c
  · have h4' : (4 : Int) < c.toNat := by have : (4 : UInt8).toNat < c.toNat := UInt8.lt_iff_toNat_lt.1 h4; have e : (4 : UInt8).toNat = 4 := rfl; omega
    have hn : nxt (c :: t) 0 = (none, c :: t, 100) := by simp [nxt, h4]
    rw [parse_none hn, List.append_nil] at hp
    rw [hp]
    (repeat' first
      | refine AWP.seq ?_
      | refine AWP.block ?_
      | (refine AWP.skip ?_; try dsimp only [thn, inBlk])
      | (refine AWP.exit ?_; try simp only [thn, inBlk, if_true])
      | (refine AWP.ret ?_; try dsimp only [thn, inBlk])
      | (refine AWP.condT ?_ ?_; (focus (simp [go_sem, hj1, p0, q0, g0, h4']; done)))
      | (refine AWP.condF ?_ ?_; (focus (simp [go_sem, hj1, p0, q0, g0, h4']; done)))
      | (apply AWP.rE; (focus (simp [go_sem, hj1, p0, q0, g0, h4']; exact ⟨rfl, rfl⟩)); try dsimp only [thn, inBlk])
      | (apply AWP.dE hmix [.n 0 [0], .n 1 [6], .n 2 [25], .n 3 [24, 26], .n 4 [27], .n 5 [28], .n 6 [29], .n 7 [0], .n 8 [6], .n 9 [32], .n 10 [31, 33], .n 11 [34], .n 12 [35], .n 13 [30, 36], .n 14 [37]]; (focus kernel_rfl); (focus (simp [go_sem, hj1, p0, q0, g0, h4']; exact ⟨rfl, rfl⟩)); try dsimp only [thn, inBlk])
      | fail)
    simp [bodyQ, thn, inBlk, resA, resV, go_sem, left]
    first | exact ⟨_, _, ⟨rfl, rfl⟩, k1⟩ | exact ⟨_, _, ⟨⟨rfl, rfl⟩, by first | rfl | simp [left]⟩, k1⟩
  have h4' : ¬ (4 : Int) < c.toNat := by intro h; apply h4; rw [UInt8.lt_iff_toNat_lt]; have e : (4 : UInt8).toNat = 4 := rfl; omega
  by_cases hs : bs.length < j3
  · have hs' : ((bs.length : Nat) : Int) < j3 := by omega
    have hn : nxt (c :: t) 0 = (none, c :: t, 0) := by
      rcases t with _ | ⟨x, _ | ⟨y, body⟩⟩
      · simp [nxt, h4]
      · simp [nxt, h4]
      · simp at hlt; omega
    rw [parse_none hn, List.append_nil] at hp
    rw [hp]
    (repeat' first
      | refine AWP.seq ?_
      | refine AWP.block ?_
      | (refine AWP.skip ?_; try dsimp only [thn, inBlk])
      | (refine AWP.exit ?_; try simp only [thn, inBlk, if_true])
      | (refine AWP.ret ?_; try dsimp only [thn, inBlk])
      | (refine AWP.condT ?_ ?_; (focus (simp [go_sem, hj1, p0, q0, g0, h4', hs', w3, wl]; done)))
      | (refine AWP.condF ?_ ?_; (focus (simp [go_sem, hj1, p0, q0, g0, h4', hs', w3, wl]; done)))
      | (apply AWP.rE; (focus (simp [go_sem, hj1, p0, q0, g0, h4', hs', w3, wl]; exact ⟨rfl, rfl⟩)); try dsimp only [thn, inBlk])
      | (apply AWP.dE hmix [.n 0 [0], .n 1 [6], .n 2 [25], .n 3 [24, 26], .n 4 [27], .n 5 [28], .n 6 [29], .n 7 [0], .n 8 [6], .n 9 [32], .n 10 [31, 33], .n 11 [34], .n 12 [35], .n 13 [30, 36], .n 14 [37]]; (focus kernel_rfl); (focus (simp [go_sem, hj1, p0, q0, g0, h4', hs', w3, wl]; exact ⟨rfl, rfl⟩)); try dsimp only [thn, inBlk])
      | fail)
    simp [bodyQ, thn, inBlk, resA, resV, go_sem, left]
    exact ⟨_, _, ⟨⟨rfl, rfl⟩, by simp at hTL; omega⟩, k1⟩
  have hs' : ¬ ((bs.length : Nat) : Int) < j3 := by omega
  obtain ⟨x, y, body, rfl⟩ : ∃ x y body, t = x :: y :: body := by
    rcases t with _ | ⟨x, _ | ⟨y, body⟩⟩
    · simp at hlt; omega
    · simp at hlt; omega
    · exact ⟨_, _, _, rfl⟩
  obtain ⟨i1, o1, r1, e1, z1, ti1, ro1, p1, q1, g1⟩ := hb.at (P := Try.prog) (t := 26) Try.underlying26 tsz5 (j := j1) (by omega) (kd := .i64)
  obtain ⟨i2, o2, r2, e2, z2, ti2, ro2, p2, q2, g2⟩ := hb.at (P := Try.prog) (t := 26) Try.underlying26 tsz5 (j := j2) (by omega) (kd := .i64)
  have hc1 : bs[j1]'(by omega) = x := by obtain ⟨_, e⟩ := at_drop (q := 1) ht (by omega); subst hj1e; exact e
  have hc2 : bs[j2]'(by omega) = y := by obtain ⟨_, e⟩ := at_drop (q := 2) ht (by omega); subst hj2e; exact e
  rw [hc1] at g1
  rw [hc2] at g2
  have lx := x.toNat_lt
  have ly := y.toNat_lt
  obtain ⟨m, hm256⟩ : ∃ m : Nat, m = 256 * x.toNat := ⟨_, rfl⟩
  obtain ⟨n, hnn⟩ : ∃ n : Nat, n = 256 * x.toNat + y.toNat := ⟨_, rfl⟩
  have wx : IntKind.i64.wrap (x.toNat : Int) = x.toNat := wI64 (by omega) (by omega)
  have wy : IntKind.i64.wrap (y.toNat : Int) = y.toNat := wI64 (by omega) (by omega)
  have wc : IntKind.i64.wrap (c.toNat : Int) = c.toNat := by have := c.toNat_lt; exact wI64 (by omega) (by omega)
  have w8 : IntKind.i64.wrap (256 * (x.toNat : Int)) = m := by rw [wI64 (by omega) (by omega)]; omega
  have wo : IntKind.i64.wrap ((m : Int) + y.toNat) = n := by rw [wI64 (by omega) (by omega)]; omega
  have hbl : body.length + 3 = bs.length - j := by rw [← hlt]; simp
  obtain ⟨N, hN⟩ : ∃ N : Nat, N = j3 + n := ⟨_, rfl⟩
  have wN : IntKind.i64.wrap ((j3 : Int) + n) = N := by rw [wI64 (by omega) (by omega)]; omega
  by_cases h512 : 512 < n
  · have h512' : (512 : Int) < n := by omega
    have hn : nxt (c :: x :: y :: body) 0 = (none, c :: x :: y :: body, 23) := by simp [nxt, h4, ← hnn, h512]
    rw [parse_none hn, List.append_nil] at hp
    rw [hp]
    (repeat' first
      | refine AWP.seq ?_
      | refine AWP.block ?_
      | (refine AWP.skip ?_; try dsimp only [thn, inBlk])
      | (refine AWP.exit ?_; try simp only [thn, inBlk, if_true])
      | (refine AWP.ret ?_; try dsimp only [thn, inBlk])
      | (refine AWP.condT ?_ ?_; (focus (simp [go_sem, hj1, p0, q0, g0, h4', hs', w1, w2, w3, p1, q1, g1, p2, q2, g2, wx, wy, w8, wo, h512']; done)))
      | (refine AWP.condF ?_ ?_; (focus (simp [go_sem, hj1, p0, q0, g0, h4', hs', w1, w2, w3, p1, q1, g1, p2, q2, g2, wx, wy, w8, wo, h512']; done)))
      | (apply AWP.rE; (focus (simp [go_sem, hj1, p0, q0, g0, h4', hs', w1, w2, w3, p1, q1, g1, p2, q2, g2, wx, wy, w8, wo, h512']; exact ⟨rfl, rfl⟩)); try dsimp only [thn, inBlk])
      | (apply AWP.dE hmix [.n 0 [0], .n 1 [6], .n 2 [25], .n 3 [24, 26], .n 4 [27], .n 5 [28], .n 6 [29], .n 7 [0], .n 8 [6], .n 9 [32], .n 10 [31, 33], .n 11 [34], .n 12 [35], .n 13 [30, 36], .n 14 [37]]; (focus kernel_rfl); (focus (simp [go_sem, hj1, p0, q0, g0, h4', hs', w1, w2, w3, p1, q1, g1, p2, q2, g2, wx, wy, w8, wo, h512']; exact ⟨rfl, rfl⟩)); try dsimp only [thn, inBlk])
      | fail)
    simp [bodyQ, thn, inBlk, resA, resV, go_sem, left]
    first | exact ⟨_, _, ⟨rfl, rfl⟩, k1⟩ | exact ⟨_, _, ⟨⟨rfl, rfl⟩, by first | rfl | simp [left]⟩, k1⟩
  have h512' : ¬ (512 : Int) < n := by omega
  by_cases hbn : bs.length < N
  · have hbn' : (bs.length : Int) < N := by omega
    have hn : nxt (c :: x :: y :: body) 0 = (none, c :: x :: y :: body, 0) := by
      have : body.length < n := by omega
      simp [nxt, h4, ← hnn, h512, this]
    rw [parse_none hn, List.append_nil] at hp
    rw [hp]
    (repeat' first
      | refine AWP.seq ?_
      | refine AWP.block ?_
      | (refine AWP.skip ?_; try dsimp only [thn, inBlk])
      | (refine AWP.exit ?_; try simp only [thn, inBlk, if_true])
      | (refine AWP.ret ?_; try dsimp only [thn, inBlk])
      | (refine AWP.condT ?_ ?_; (focus (simp [go_sem, hj1, p0, q0, g0, h4', hs', w1, w2, w3, p1, q1, g1, p2, q2, g2, wx, wy, w8, wo, h512', hbn', wN, wl]; done)))
      | (refine AWP.condF ?_ ?_; (focus (simp [go_sem, hj1, p0, q0, g0, h4', hs', w1, w2, w3, p1, q1, g1, p2, q2, g2, wx, wy, w8, wo, h512', hbn', wN, wl]; done)))
      | (apply AWP.rE; (focus (simp [go_sem, hj1, p0, q0, g0, h4', hs', w1, w2, w3, p1, q1, g1, p2, q2, g2, wx, wy, w8, wo, h512', hbn', wN, wl]; exact ⟨rfl, rfl⟩)); try dsimp only [thn, inBlk])
      | (apply AWP.dE hmix [.n 0 [0], .n 1 [6], .n 2 [25], .n 3 [24, 26], .n 4 [27], .n 5 [28], .n 6 [29], .n 7 [0], .n 8 [6], .n 9 [32], .n 10 [31, 33], .n 11 [34], .n 12 [35], .n 13 [30, 36], .n 14 [37]]; (focus kernel_rfl); (focus (simp [go_sem, hj1, p0, q0, g0, h4', hs', w1, w2, w3, p1, q1, g1, p2, q2, g2, wx, wy, w8, wo, h512', hbn', wN, wl]; exact ⟨rfl, rfl⟩)); try dsimp only [thn, inBlk])
      | fail)
    simp [bodyQ, thn, inBlk, resA, resV, go_sem, left]
    exact ⟨_, _, ⟨⟨rfl, rfl⟩, by simp at hTL; omega⟩, k1⟩
  have hbn' : ¬ (bs.length : Int) < N := by omega
  have hn : nxt (c :: x :: y :: body) 0 = (some ((c.toNat : Int), body.take n), body.drop n, 0) := by
    have : ¬ body.length < n := by omega
    simp [nxt, h4, ← hnn, h512, this]
  rw [parse_some hn] at hp
  (repeat' first
    | refine AWP.seq ?_
    | refine AWP.block ?_
    | (refine AWP.skip ?_; try dsimp only [thn, inBlk])
    | (refine AWP.exit ?_; try simp only [thn, inBlk, if_true])
    | (refine AWP.ret ?_; try dsimp only [thn, inBlk])
    | (refine AWP.condT ?_ ?_; (focus (simp [go_sem, hj1, p0, q0, g0, h4', hs', w1, w2, w3, p1, q1, g1, p2, q2, g2, wx, wy, w8, wo, h512', hbn', wN, wl]; done)))
    | (refine AWP.condF ?_ ?_; (focus (simp [go_sem, hj1, p0, q0, g0, h4', hs', w1, w2, w3, p1, q1, g1, p2, q2, g2, wx, wy, w8, wo, h512', hbn', wN, wl]; done)))
    | (apply AWP.rE; (focus (simp [go_sem, hj1, p0, q0, g0, h4', hs', w1, w2, w3, p1, q1, g1, p2, q2, g2, wx, wy, w8, wo, h512', hbn', wN, wl]; exact ⟨rfl, rfl⟩)); try dsimp only [thn, inBlk])
    | (apply AWP.dE hmix [.n 0 [0], .n 1 [6], .n 2 [25], .n 3 [24, 26], .n 4 [27], .n 5 [28], .n 6 [29], .n 7 [0], .n 8 [6], .n 9 [32], .n 10 [31, 33], .n 11 [34], .n 12 [35], .n 13 [30, 36], .n 14 [37]]; (focus kernel_rfl); (focus (simp [go_sem, hj1, p0, q0, g0, h4', hs', w1, w2, w3, p1, q1, g1, p2, q2, g2, wx, wy, w8, wo, h512', hbn', wN, wl]; exact ⟨rfl, rfl⟩)); try dsimp only [thn, inBlk])
    | fail)
  have hbody : (bs.take N).drop j3 = body.take n := by
    rw [hN, hj3e, List.drop_take, show j + 3 + n - (j + 3) = n by omega, ← List.drop_drop, ht]; rfl
  have hpl : (body.take n).length = n := by simp; omega
  have hsrc : ∀ hh, Own O hh R → Bytes hh (sliceV 1 j3 N (.slice xa bs.length xc)) (body.take n) := fun hh kk => by
    have := ((hx hh kk).piece (P := Try.prog) (t := 26) (e := 5) Try.underlying26 tsz5 (lo := j3) (hi := N) (by omega) (by omega) (l := some (.int .i64 (j3 : Int))) (u := some (.int .i64 (N : Int))) (.inr ⟨.i64, rfl⟩) (.inr ⟨.i64, rfl⟩)).2
    rwa [hbody] at this
  have k2 : Own O _ (ob 5 (.slice (some ⟨h'.next, 0, none⟩) 0 0) [] :: frs (.slice a fs.length cap) fs :: R) := (k1.push (.row [] 5 1 true false)).row_any (n := 0) rfl
  obtain ⟨s1, s2⟩ := (hx _ k2.tail.tail).piece (P := Try.prog) (t := 26) (e := 5) Try.underlying26 tsz5 (lo := j3) (hi := N) (by omega) (by omega) (l := some (.int .i64 (j3 : Int))) (u := some (.int .i64 (N : Int))) (.inr ⟨.i64, rfl⟩) (.inr ⟨.i64, rfl⟩)
  obtain ⟨a3, c3, h3, e3, k3⟩ := k2.appB (P := Try.prog) (t := 26) (xt := 26) Try.underlying26 tsz5 tby5 tz5 nI26 (hsrc _ k2.tail.tail).src (by simp; omega)
  rw [List.nil_append, List.length_nil, Nat.zero_add] at k3
  rw [hpl, List.length_nil, Nat.zero_add] at e3
  obtain ⟨j0, u0, r0', e0', z0', ti0', ro0', p0', q0', g0'⟩ := (hx h3 k3.tail.tail).at (P := Try.prog) (t := 26) Try.underlying26 tsz5 (j := j) hj0 (kd := .i64)
  cases p0.symm.trans p0'
  rw [hcj] at g0'
  obtain ⟨a4, c4, h5, e5, k5⟩ := k3.b1.brecs_app (P := Try.prog) (t := 27) (xt := 27) (fs := fs) (x := (c.toNat : Int)) (bs := body.take n) (i := h3.next) Try.underlying27 tsz36 tby36 tz36 nI27 (by omega) rfl rfl rfl rfl (by omega)
  rw [hpl] at e5
  simp only [pre, List.cons_append, List.nil_append] at e5
  refine AWP.draw hmix [.n 0 [5], .n 1 [0], .n 2 [6], .n 3 [49, 50], .n 4 [51], .n 5 [52], .n 6 [], .n 7 [0], .n 8 [6], .n 9 [56], .n 10 [6], .n 11 [58], .n 12 [7], .n 13 [59, 60], .n 14 [55, 57, 61], .w 15 [54, 62] [4, 5], .n 16 [53, 63], .n 17 [64], .w 18 [48, 65] [], .n 19 [66]] (by kernel_rfl) ?_
  refine awpD_writeR 15 (by rfl) (by rfl) (by simp [go_sem, p0, q0, g0, wc, w3, wN, s1, e3, q0', g0']; exact ⟨rfl, rfl, rfl⟩) (by rfl) (by rfl) (by simp [go_sem]) (by simp [go_sem, p0, q0, g0, wc, w3, wN, s1, e3, q0', g0']; exact ⟨rfl, rfl⟩) (by simp [still, go_sem, p0, q0, g0, wc, w3, wN, s1, e3, q0', g0']) ?_
  refine awpD_writeR 2 (by rfl) (by rfl) (by simp [go_sem, e5, q0', g0', wc]; exact ⟨rfl, rfl, rfl⟩) (by rfl) (by rfl) (by simp [go_sem]) (by simp [go_sem, e5, q0', g0', wc]; exact ⟨rfl, rfl⟩) (by simp [still, go_sem, e5, q0', g0', wc]) ?_
  refine awpD_restR (by rfl) (by simp [go_sem]; exact ⟨rfl, rfl, rfl⟩) ?_; try dsimp only [thn, inBlk]
  have wn3 : IntKind.i64.wrap (3 + (n : Int)) = ((3 + n : Nat) : Int) := by rw [wI64 (by omega) (by omega)]; omega
  obtain ⟨N2, hN2⟩ : ∃ N : Nat, N = 3 + n := ⟨_, rfl⟩
  rw [← hN2] at wn3
  have wj : IntKind.i64.wrap ((j : Int) + N2) = N := by rw [wI64 (by omega) (by omega)]; omega
  (repeat' first
    | refine AWP.seq ?_
    | refine AWP.block ?_
    | (refine AWP.skip ?_; try dsimp only [thn, inBlk])
    | (refine AWP.exit ?_; try simp only [thn, inBlk, if_true])
    | (refine AWP.ret ?_; try dsimp only [thn, inBlk])
    | (refine AWP.condT ?_ ?_; (focus (simp [go_sem, wn3, wj]; done)))
    | (refine AWP.condF ?_ ?_; (focus (simp [go_sem, wn3, wj]; done)))
    | (apply AWP.rE; (focus (simp [go_sem, wn3, wj]; exact ⟨rfl, rfl⟩)); try dsimp only [thn, inBlk])
    | (apply AWP.dE hmix [.n 0 [0], .n 1 [6], .n 2 [25], .n 3 [24, 26], .n 4 [27], .n 5 [28], .n 6 [29], .n 7 [0], .n 8 [6], .n 9 [32], .n 10 [31, 33], .n 11 [34], .n 12 [35], .n 13 [30, 36], .n 14 [37]]; (focus kernel_rfl); (focus (simp [go_sem, wn3, wj]; exact ⟨rfl, rfl⟩)); try dsimp only [thn, inBlk])
    | fail)
  have hd : bs.drop N = body.drop n := by rw [hN, hj3e, ← List.drop_drop, ← List.drop_drop, ht]; rfl
  refine ⟨bs.length - N, by omega, N, fs ++ [((c.toNat : Int), body.take n)], a4, c4, by omega, rfl, by simp [go_sem], ?_, by simp; omega, ?_⟩
  · rw [hp, hd]; simp
  · rw [List.length_append]; exact k5
end L17
