import Derived.Test.YtjlcednpohgamaaL17T
import Derived.Test.YtjlcednpohgamaaAbRecs
open Go Ab Go.Proofs
namespace L17
set_option autoImplicit false
set_option linter.unusedSimpArgs false
set_option linter.unusedVariables false

abbrev ptr (i : Nat) : Value := .pointer (some ⟨i, 0, none⟩)

theorem clone_calls {O : Old} {h : AHeap} {R : List Chunk} {v : Value} {bs : List UInt8} (k : Own O h R) (hx : ∀ h, Own O h R → Bytes h v bs) (hm : bs.length ≤ 140737488355328) :
    ACalls Try.prog 15 #[v] h fun r h' => ∃ a cap, r = .slice a bs.length cap ∧ Own O h' (ob 5 (.slice a bs.length cap) bs :: R) := by
  refine ACalls.of_awp (args := [v]) (n := 8) Try.func15 rfl rfl (by show 1 ≤ 8; omega) ?_
  rcases hx h k with ⟨rfl, rfl⟩ | ⟨i, off, cap, c, e, sz, ti, ro, rfl, _⟩
  · (repeat' first
      | refine AWP.seq ?_
      | refine AWP.block ?_
      | (refine AWP.skip ?_; try dsimp only [thn, inBlk])
      | (refine AWP.exit ?_; try simp only [thn, inBlk, if_true])
      | (refine AWP.ret ?_; try dsimp only [thn, inBlk])
      | (refine AWP.condT ?_ ?_; (focus (simp [go_sem]; done)))
      | (refine AWP.condF ?_ ?_; (focus (simp [go_sem]; done)))
      | (apply AWP.rE; (focus (simp [go_sem]; exact ⟨rfl, rfl⟩)); try dsimp only [thn, inBlk])
      | fail)
    simp [bodyQ, thn, inBlk, resA, resV, go_sem]
    exact ⟨_, _, ⟨rfl, rfl⟩, k.nil 5 1⟩
  · obtain ⟨a2, c2, h2, e1, k2⟩ := k.copy (P := Try.prog) (t := 26) (xt := 26) (i := h.next) Try.underlying26 tsz5 tby5 tz5 nI26 hx hm rfl
    (repeat' first
      | refine AWP.seq ?_
      | refine AWP.block ?_
      | (refine AWP.skip ?_; try dsimp only [thn, inBlk])
      | (refine AWP.exit ?_; try simp only [thn, inBlk, if_true])
      | (refine AWP.ret ?_; try dsimp only [thn, inBlk])
      | (refine AWP.condT ?_ ?_; (focus (simp [go_sem, e1]; done)))
      | (refine AWP.condF ?_ ?_; (focus (simp [go_sem, e1]; done)))
      | (apply AWP.rE; (focus (simp [go_sem, e1]; exact ⟨rfl, rfl⟩)); try dsimp only [thn, inBlk])
      | fail)
    simp [bodyQ, thn, inBlk, resA, resV, go_sem]
    exact ⟨_, _, ⟨rfl, rfl⟩, k2⟩

abbrev Fr := Int × List UInt8
/-- The frame at the head of bytes: none, and the error that is met; or one, and the rest. -/
def nxt (r : List UInt8) (b : Int) : Option Fr × List UInt8 × Int :=
  match r with
  | c :: t => if 4 < c then (none, r, 100) else match t with
    | x :: y :: body => if b ≠ 0 then (none, r, b) else if 512 < 256 * x.toNat + y.toNat then (none, r, 23) else
        if body.length < 256 * x.toNat + y.toNat then (none, r, 0) else (some ((c.toNat : Int), body.take (256 * x.toNat + y.toNat)), body.drop (256 * x.toNat + y.toNat), 0)
    | _ => (none, r, b)
  | [] => (none, r, b)

abbrev row (vr : Value) (b : Int) : AObj := .row [vr, .int .i64 b] 47 2 true false
/-- The reader at number i of the heap. -/
def rdr (i : Nat) (r : List UInt8) (b : Int) : Chunk := ex fun ac : Option Addr × Nat => star [cell i (row (.slice ac.1 r.length ac.2) b), ob 5 (.slice ac.1 r.length ac.2) r]
theorem rdr_iff {O : Old} {h : AHeap} {R : List Chunk} {i : Nat} {r : List UInt8} {b : Int} : Own O h (rdr i r b :: R) ↔ ∃ a cap, Own O h (cell i (row (.slice a r.length cap) b) :: ob 5 (.slice a r.length cap) r :: R) := by
  simp only [rdr, Own.ex_iff, Own.star_iff, List.cons_append, List.nil_append]
  exact ⟨fun ⟨x, k⟩ => ⟨x.1, x.2, k⟩, fun ⟨a, c, k⟩ => ⟨(a, c), k⟩⟩

theorem new_calls {O : Old} {h : AHeap} {R : List Chunk} (k : Own O h R) : ACalls Try.prog 8 #[] h fun r h' => ∃ i, r = ptr i ∧ Own O h' (rdr i [] 0 :: R) := by
  refine ACalls.of_awp (args := []) (n := 3) Try.func8 rfl rfl (by show 0 ≤ 3; omega) ?_
  have k1 := k.push (row (.slice none 0 0) 0)
  (repeat' first
    | refine AWP.seq ?_
    | refine AWP.block ?_
    | (refine AWP.skip ?_; try dsimp only [thn, inBlk])
    | (refine AWP.exit ?_; try simp only [thn, inBlk, if_true])
    | (refine AWP.ret ?_; try dsimp only [thn, inBlk])
    | (refine AWP.condT ?_ ?_; (focus (simp [go_sem]; done)))
    | (refine AWP.condF ?_ ?_; (focus (simp [go_sem]; done)))
    | (apply AWP.rE; (focus (simp [go_sem]; exact ⟨rfl, rfl⟩)); try dsimp only [thn, inBlk])
    | fail)
  simp [bodyQ, thn, inBlk, resA, resV, go_sem]
  exact rdr_iff.2 ⟨none, 0, (k1.nil 5 1).b1⟩

theorem rest_calls {O : Old} {h : AHeap} {R : List Chunk} {i : Nat} {r : List UInt8} {b : Int} (k : Own O h (rdr i r b :: R)) : ACalls Try.prog 10 #[ptr i] h fun v h' => v = .int .i64 r.length ∧ h' = h := by
  obtain ⟨a, cap, k1⟩ := rdr_iff.1 k
  have c1 := k1.obj
  refine ACalls.of_awp (args := [ptr i]) (n := 8) Try.func10 rfl rfl (by show 1 ≤ 8; omega) ?_
  (repeat' first
    | refine AWP.seq ?_
    | refine AWP.block ?_
    | (refine AWP.skip ?_; try dsimp only [thn, inBlk])
    | (refine AWP.exit ?_; try simp only [thn, inBlk, if_true])
    | (refine AWP.ret ?_; try dsimp only [thn, inBlk])
    | (refine AWP.condT ?_ ?_; (focus (simp [go_sem, c1]; done)))
    | (refine AWP.condF ?_ ?_; (focus (simp [go_sem, c1]; done)))
    | (apply AWP.rE; (focus (simp [go_sem, c1]; exact ⟨rfl, rfl⟩)); try dsimp only [thn, inBlk])
    | fail)
  simp [bodyQ, thn, inBlk, resA, resV, go_sem]

theorem lt_int {c d : UInt8} : (c < d) ↔ (c.toNat : Int) < d.toNat := by rw [UInt8.lt_iff_toNat_lt]; omega

set_option maxHeartbeats 2000000 in
theorem next_calls {O : Old} {h : AHeap} {R : List Chunk} {i : Nat} {r : List UInt8} {b : Int} (k : Own O h (rdr i r b :: R)) (hm : r.length ≤ 140737488355320) :
    ACalls Try.prog 16 #[ptr i] h fun v h' => match nxt r b with
      | (none, r', b') => v = .tuple #[.agg #[.int .i64 0, .slice none 0 0], .bool false] ∧ Own O h' (rdr i r' b' :: R)
      | (some f, r', b') => ∃ a cap, v = .tuple #[.agg #[.int .i64 f.1, .slice a f.2.length cap], .bool true] ∧ Own O h' (rdr i r' b' :: ob 5 (.slice a f.2.length cap) f.2 :: R) := by
  obtain ⟨a, cap, k1⟩ := rdr_iff.1 k
  have c1 := k1.obj
  have k2 := k1.push (.row [.int .i64 0, .slice none 0 0] 36 2 true false)
  have c2 := k2.b1.obj
  have c3 := k2.obj
  have hb2 := k2.b2.ob_bytes
  refine ACalls.of_awp (args := [ptr i]) (n := 101) Try.func16 rfl rfl (by show 1 ≤ 101; omega) ?_
  rcases r with _ | ⟨c, t⟩
  · have hn : nxt [] b = (none, [], b) := rfl
    rw [hn]
    (repeat' first
      | refine AWP.seq ?_
      | refine AWP.block ?_
      | (refine AWP.skip ?_; try dsimp only [thn, inBlk])
      | (refine AWP.exit ?_; try simp only [thn, inBlk, if_true])
      | (refine AWP.ret ?_; try dsimp only [thn, inBlk])
      | (refine AWP.condT ?_ ?_; (focus (simp [go_sem, c2]; done)))
      | (refine AWP.condF ?_ ?_; (focus (simp [go_sem, c2]; done)))
      | (apply AWP.rE; (focus (simp [go_sem, c2]; exact ⟨rfl, rfl⟩)); try dsimp only [thn, inBlk])
      | (apply AWP.dE hmix [.n 0 [0], .n 1 [37], .n 2 [38], .n 3 [39], .n 4 [40], .n 5 [41], .n 6 [42], .n 7 [43], .n 8 [0], .n 9 [45], .n 10 [46], .n 11 [47], .n 12 [48], .n 13 [49], .n 14 [50], .n 15 [44, 51], .n 16 [52]]; (focus kernel_rfl); (focus (simp [go_sem, c2]; exact ⟨rfl, rfl⟩)); try dsimp only [thn, inBlk])
      | fail)
    simp [bodyQ, thn, inBlk, resA, resV, go_sem]
    exact rdr_iff.2 ⟨a, cap, k2.tail⟩
  have hlen : 0 < (c :: t).length := by simp
  obtain ⟨i0, o0, r0, e0, z0, ti0, ro0, p0, q0, g0⟩ := hb2.at (P := Try.prog) (t := 26) Try.underlying26 tsz5 (j := 0) (by simp) (kd := .i64)
  have p0 : indexAddrP Try.prog 26 (.slice a (c :: t).length cap) (.int .i64 0) = some (.pointer (some ⟨i0, o0, none⟩)) := p0
  simp only [List.getElem_cons_zero] at g0
  by_cases h4 : 4 < c
  · have h4' : (4 : Int) < c.toNat := by have : (4 : UInt8).toNat < c.toNat := UInt8.lt_iff_toNat_lt.1 h4; have e : (4 : UInt8).toNat = 4 := rfl; omega
    have hn : nxt (c :: t) b = (none, c :: t, 100) := by simp [nxt, h4]
    rw [hn]
    have k3 := k2.b1.set (row (.slice a (c :: t).length cap) 100)
    have c3 := k3.b1.obj
    generalize hL : (c :: t).length = L at *
    by_cases hs : L < 3
    · have hs' : (L : Int) < 3 := by omega
      (repeat' first
        | refine AWP.seq ?_
        | refine AWP.block ?_
        | (refine AWP.skip ?_; try dsimp only [thn, inBlk])
        | (refine AWP.exit ?_; try simp only [thn, inBlk, if_true])
        | (refine AWP.ret ?_; try dsimp only [thn, inBlk])
        | (refine AWP.condT ?_ ?_; (focus (simp [go_sem, c2, hlen, p0, q0, g0, h4', hs', c3]; done)))
        | (refine AWP.condF ?_ ?_; (focus (simp [go_sem, c2, hlen, p0, q0, g0, h4', hs', c3]; done)))
        | (apply AWP.rE; (focus (simp [go_sem, c2, hlen, p0, q0, g0, h4', hs', c3]; exact ⟨rfl, rfl⟩)); try dsimp only [thn, inBlk])
        | (apply AWP.dE hmix [.n 0 [0], .n 1 [37], .n 2 [38], .n 3 [39], .n 4 [40], .n 5 [41], .n 6 [42], .n 7 [43], .n 8 [0], .n 9 [45], .n 10 [46], .n 11 [47], .n 12 [48], .n 13 [49], .n 14 [50], .n 15 [44, 51], .n 16 [52]]; (focus kernel_rfl); (focus (simp [go_sem, c2, hlen, p0, q0, g0, h4', hs', c3]; exact ⟨rfl, rfl⟩)); try dsimp only [thn, inBlk])
        | fail)
      simp [bodyQ, thn, inBlk, resA, resV, go_sem, c3]
      exact rdr_iff.2 ⟨a, cap, by rw [hL]; exact (k3.b1.set (.row [.int .i64 0, .slice none 0 0] 36 2 true false)).tail⟩
    · have hs' : ¬ (L : Int) < 3 := by omega
      (repeat' first
        | refine AWP.seq ?_
        | refine AWP.block ?_
        | (refine AWP.skip ?_; try dsimp only [thn, inBlk])
        | (refine AWP.exit ?_; try simp only [thn, inBlk, if_true])
        | (refine AWP.ret ?_; try dsimp only [thn, inBlk])
        | (refine AWP.condT ?_ ?_; (focus (simp [go_sem, c2, hlen, p0, q0, g0, h4', hs', c3]; done)))
        | (refine AWP.condF ?_ ?_; (focus (simp [go_sem, c2, hlen, p0, q0, g0, h4', hs', c3]; done)))
        | (apply AWP.rE; (focus (simp [go_sem, c2, hlen, p0, q0, g0, h4', hs', c3]; exact ⟨rfl, rfl⟩)); try dsimp only [thn, inBlk])
        | (apply AWP.dE hmix [.n 0 [0], .n 1 [37], .n 2 [38], .n 3 [39], .n 4 [40], .n 5 [41], .n 6 [42], .n 7 [43], .n 8 [0], .n 9 [45], .n 10 [46], .n 11 [47], .n 12 [48], .n 13 [49], .n 14 [50], .n 15 [44, 51], .n 16 [52]]; (focus kernel_rfl); (focus (simp [go_sem, c2, hlen, p0, q0, g0, h4', hs', c3]; exact ⟨rfl, rfl⟩)); try dsimp only [thn, inBlk])
        | fail)
      simp [bodyQ, thn, inBlk, resA, resV, go_sem, c3]
      exact rdr_iff.2 ⟨a, cap, by rw [hL]; exact (k3.b1.set (.row [.int .i64 0, .slice none 0 0] 36 2 true false)).tail⟩
  have h4' : ¬ (4 : Int) < c.toNat := by intro h; apply h4; rw [UInt8.lt_iff_toNat_lt]; have e : (4 : UInt8).toNat = 4 := rfl; omega
  by_cases hs : (c :: t).length < 3
  · have hs' : (((c :: t).length : Nat) : Int) < 3 := by omega
    have hn : nxt (c :: t) b = (none, c :: t, b) := by
      rcases t with _ | ⟨x, _ | ⟨y, body⟩⟩
      · simp [nxt, h4]
      · simp [nxt, h4]
      · simp at hs; omega
    rw [hn]
    generalize hL : (c :: t).length = L at *
    (repeat' first
      | refine AWP.seq ?_
      | refine AWP.block ?_
      | (refine AWP.skip ?_; try dsimp only [thn, inBlk])
      | (refine AWP.exit ?_; try simp only [thn, inBlk, if_true])
      | (refine AWP.ret ?_; try dsimp only [thn, inBlk])
      | (refine AWP.condT ?_ ?_; (focus (simp [go_sem, c2, hlen, p0, q0, g0, h4', hs']; done)))
      | (refine AWP.condF ?_ ?_; (focus (simp [go_sem, c2, hlen, p0, q0, g0, h4', hs']; done)))
      | (apply AWP.rE; (focus (simp [go_sem, c2, hlen, p0, q0, g0, h4', hs']; exact ⟨rfl, rfl⟩)); try dsimp only [thn, inBlk])
      | (apply AWP.dE hmix [.n 0 [0], .n 1 [37], .n 2 [38], .n 3 [39], .n 4 [40], .n 5 [41], .n 6 [42], .n 7 [43], .n 8 [0], .n 9 [45], .n 10 [46], .n 11 [47], .n 12 [48], .n 13 [49], .n 14 [50], .n 15 [44, 51], .n 16 [52]]; (focus kernel_rfl); (focus (simp [go_sem, c2, hlen, p0, q0, g0, h4', hs']; exact ⟨rfl, rfl⟩)); try dsimp only [thn, inBlk])
      | fail)
    simp [bodyQ, thn, inBlk, resA, resV, go_sem]
    exact rdr_iff.2 ⟨a, cap, by rw [hL]; exact k2.tail⟩
  have hs' : ¬ (((c :: t).length : Nat) : Int) < 3 := by omega
  obtain ⟨x, y, body, rfl⟩ : ∃ x y body, t = x :: y :: body := by
    rcases t with _ | ⟨x, _ | ⟨y, body⟩⟩
    · simp at hs
    · simp at hs
    · exact ⟨_, _, _, rfl⟩
  obtain ⟨i1, o1, r1, e1, z1, ti1, ro1, p1, q1, g1⟩ := hb2.at (P := Try.prog) (t := 26) Try.underlying26 tsz5 (j := 1) (by simp) (kd := .i64)
  obtain ⟨i2, o2, r2, e2, z2, ti2, ro2, p2, q2, g2⟩ := hb2.at (P := Try.prog) (t := 26) Try.underlying26 tsz5 (j := 2) (by simp) (kd := .i64)
  have p1 : indexAddrP Try.prog 26 (.slice a (c :: x :: y :: body).length cap) (.int .i64 1) = some (.pointer (some ⟨i1, o1, none⟩)) := p1
  have p2 : indexAddrP Try.prog 26 (.slice a (c :: x :: y :: body).length cap) (.int .i64 2) = some (.pointer (some ⟨i2, o2, none⟩)) := p2
  simp only [List.getElem_cons_zero, List.getElem_cons_succ] at g1 g2
  by_cases hb0 : b = 0
  rotate_left
  · have hn : nxt (c :: x :: y :: body) b = (none, c :: x :: y :: body, b) := by simp [nxt, h4, hb0]
    rw [hn]
    have hbn : (b != 0) = true := by simpa using hb0
    generalize hL : (c :: x :: y :: body).length = L at *
    (repeat' first
      | refine AWP.seq ?_
      | refine AWP.block ?_
      | (refine AWP.skip ?_; try dsimp only [thn, inBlk])
      | (refine AWP.exit ?_; try simp only [thn, inBlk, if_true])
      | (refine AWP.ret ?_; try dsimp only [thn, inBlk])
      | (refine AWP.condT ?_ ?_; (focus (simp [go_sem, c2, hlen, p0, q0, g0, h4', hs', hbn]; done)))
      | (refine AWP.condF ?_ ?_; (focus (simp [go_sem, c2, hlen, p0, q0, g0, h4', hs', hbn]; done)))
      | (apply AWP.rE; (focus (simp [go_sem, c2, hlen, p0, q0, g0, h4', hs', hbn]; exact ⟨rfl, rfl⟩)); try dsimp only [thn, inBlk])
      | (apply AWP.dE hmix [.n 0 [0], .n 1 [37], .n 2 [38], .n 3 [39], .n 4 [40], .n 5 [41], .n 6 [42], .n 7 [43], .n 8 [0], .n 9 [45], .n 10 [46], .n 11 [47], .n 12 [48], .n 13 [49], .n 14 [50], .n 15 [44, 51], .n 16 [52]]; (focus kernel_rfl); (focus (simp [go_sem, c2, hlen, p0, q0, g0, h4', hs', hbn]; exact ⟨rfl, rfl⟩)); try dsimp only [thn, inBlk])
      | fail)
    simp [bodyQ, thn, inBlk, resA, resV, go_sem]
    exact rdr_iff.2 ⟨a, cap, by rw [hL]; exact k2.tail⟩
  subst hb0
  have lx := x.toNat_lt
  have ly := y.toNat_lt
  obtain ⟨m, hm256⟩ : ∃ m : Nat, m = x.toNat * 256 := ⟨_, rfl⟩
  obtain ⟨n, hnn⟩ : ∃ n : Nat, n = 256 * x.toNat + y.toNat := ⟨_, rfl⟩
  have wx : IntKind.i64.wrap (x.toNat : Int) = x.toNat := wI64 (by omega) (by omega)
  have wy : IntKind.i64.wrap (y.toNat : Int) = y.toNat := wI64 (by omega) (by omega)
  have wc : IntKind.i64.wrap (c.toNat : Int) = c.toNat := by have := c.toNat_lt; exact wI64 (by omega) (by omega)
  have w8 : IntKind.i64.wrap ((x.toNat : Int) * 256) = m := by rw [wI64 (by omega) (by omega)]; omega
  have wo : (m % 18446744073709551616) ||| y.toNat = n := by
    rw [Nat.mod_eq_of_lt (by omega), hm256, hnn]
    have := Nat.two_pow_add_eq_or_of_lt (i := 8) ly x.toNat
    rw [Nat.mul_comm x.toNat 256]; exact this.symm
  have wn : IntKind.i64.wrap (n : Int) = n := wI64 (by omega) (by omega)
  have hLb : (c :: x :: y :: body).length = body.length + 3 := by simp
  generalize hL : (c :: x :: y :: body).length = L at *
  have wl : IntKind.i64.wrap ((L : Int) - 3) = body.length := by rw [wI64 (by omega) (by omega)]; omega
  by_cases h512 : 512 < n
  · have h512' : (512 : Int) < n := by omega
    have hn : nxt (c :: x :: y :: body) 0 = (none, c :: x :: y :: body, 23) := by simp [nxt, h4, ← hnn, h512]
    rw [hn]
    have k3 := k2.b1.set (row (.slice a L cap) 23)
    have c4 := k3.b1.obj
    by_cases hbn : body.length < n
    · have hbn' : (body.length : Int) < n := by omega
      (repeat' first
        | refine AWP.seq ?_
        | refine AWP.block ?_
        | (refine AWP.skip ?_; try dsimp only [thn, inBlk])
        | (refine AWP.exit ?_; try simp only [thn, inBlk, if_true])
        | (refine AWP.ret ?_; try dsimp only [thn, inBlk])
        | (refine AWP.condT ?_ ?_; (focus (simp [go_sem, c2, hlen, p0, q0, g0, h4', hs', p1, q1, g1, p2, q2, g2, wx, wy, w8, wo, wn, wl, h512', hbn', c4]; done)))
        | (refine AWP.condF ?_ ?_; (focus (simp [go_sem, c2, hlen, p0, q0, g0, h4', hs', p1, q1, g1, p2, q2, g2, wx, wy, w8, wo, wn, wl, h512', hbn', c4]; done)))
        | (apply AWP.rE; (focus (simp [go_sem, c2, hlen, p0, q0, g0, h4', hs', p1, q1, g1, p2, q2, g2, wx, wy, w8, wo, wn, wl, h512', hbn', c4]; exact ⟨rfl, rfl⟩)); try dsimp only [thn, inBlk])
        | (apply AWP.dE hmix [.n 0 [0], .n 1 [37], .n 2 [38], .n 3 [39], .n 4 [40], .n 5 [41], .n 6 [42], .n 7 [43], .n 8 [0], .n 9 [45], .n 10 [46], .n 11 [47], .n 12 [48], .n 13 [49], .n 14 [50], .n 15 [44, 51], .n 16 [52]]; (focus kernel_rfl); (focus (simp [go_sem, c2, hlen, p0, q0, g0, h4', hs', p1, q1, g1, p2, q2, g2, wx, wy, w8, wo, wn, wl, h512', hbn', c4]; exact ⟨rfl, rfl⟩)); try dsimp only [thn, inBlk])
        | fail)
      simp [bodyQ, thn, inBlk, resA, resV, go_sem, c4]
      exact rdr_iff.2 ⟨a, cap, by rw [hL]; exact (k3.b1.set (.row [.int .i64 0, .slice none 0 0] 36 2 true false)).tail⟩
    · have hbn' : ¬ (body.length : Int) < n := by omega
      (repeat' first
        | refine AWP.seq ?_
        | refine AWP.block ?_
        | (refine AWP.skip ?_; try dsimp only [thn, inBlk])
        | (refine AWP.exit ?_; try simp only [thn, inBlk, if_true])
        | (refine AWP.ret ?_; try dsimp only [thn, inBlk])
        | (refine AWP.condT ?_ ?_; (focus (simp [go_sem, c2, hlen, p0, q0, g0, h4', hs', p1, q1, g1, p2, q2, g2, wx, wy, w8, wo, wn, wl, h512', hbn', c4]; done)))
        | (refine AWP.condF ?_ ?_; (focus (simp [go_sem, c2, hlen, p0, q0, g0, h4', hs', p1, q1, g1, p2, q2, g2, wx, wy, w8, wo, wn, wl, h512', hbn', c4]; done)))
        | (apply AWP.rE; (focus (simp [go_sem, c2, hlen, p0, q0, g0, h4', hs', p1, q1, g1, p2, q2, g2, wx, wy, w8, wo, wn, wl, h512', hbn', c4]; exact ⟨rfl, rfl⟩)); try dsimp only [thn, inBlk])
        | (apply AWP.dE hmix [.n 0 [0], .n 1 [37], .n 2 [38], .n 3 [39], .n 4 [40], .n 5 [41], .n 6 [42], .n 7 [43], .n 8 [0], .n 9 [45], .n 10 [46], .n 11 [47], .n 12 [48], .n 13 [49], .n 14 [50], .n 15 [44, 51], .n 16 [52]]; (focus kernel_rfl); (focus (simp [go_sem, c2, hlen, p0, q0, g0, h4', hs', p1, q1, g1, p2, q2, g2, wx, wy, w8, wo, wn, wl, h512', hbn', c4]; exact ⟨rfl, rfl⟩)); try dsimp only [thn, inBlk])
        | fail)
      simp [bodyQ, thn, inBlk, resA, resV, go_sem, c4]
      exact rdr_iff.2 ⟨a, cap, by rw [hL]; exact (k3.b1.set (.row [.int .i64 0, .slice none 0 0] 36 2 true false)).tail⟩
  have h512' : ¬ (512 : Int) < n := by omega
  by_cases hbn : body.length < n
  · have hbn' : (body.length : Int) < n := by omega
    have hn : nxt (c :: x :: y :: body) 0 = (none, c :: x :: y :: body, 0) := by simp [nxt, h4, ← hnn, h512, hbn]
    rw [hn]
    (repeat' first
      | refine AWP.seq ?_
      | refine AWP.block ?_
      | (refine AWP.skip ?_; try dsimp only [thn, inBlk])
      | (refine AWP.exit ?_; try simp only [thn, inBlk, if_true])
      | (refine AWP.ret ?_; try dsimp only [thn, inBlk])
      | (refine AWP.condT ?_ ?_; (focus (simp [go_sem, c2, hlen, p0, q0, g0, h4', hs', p1, q1, g1, p2, q2, g2, wx, wy, w8, wo, wn, wl, h512', hbn']; done)))
      | (refine AWP.condF ?_ ?_; (focus (simp [go_sem, c2, hlen, p0, q0, g0, h4', hs', p1, q1, g1, p2, q2, g2, wx, wy, w8, wo, wn, wl, h512', hbn']; done)))
      | (apply AWP.rE; (focus (simp [go_sem, c2, hlen, p0, q0, g0, h4', hs', p1, q1, g1, p2, q2, g2, wx, wy, w8, wo, wn, wl, h512', hbn']; exact ⟨rfl, rfl⟩)); try dsimp only [thn, inBlk])
      | (apply AWP.dE hmix [.n 0 [0], .n 1 [37], .n 2 [38], .n 3 [39], .n 4 [40], .n 5 [41], .n 6 [42], .n 7 [43], .n 8 [0], .n 9 [45], .n 10 [46], .n 11 [47], .n 12 [48], .n 13 [49], .n 14 [50], .n 15 [44, 51], .n 16 [52]]; (focus kernel_rfl); (focus (simp [go_sem, c2, hlen, p0, q0, g0, h4', hs', p1, q1, g1, p2, q2, g2, wx, wy, w8, wo, wn, wl, h512', hbn']; exact ⟨rfl, rfl⟩)); try dsimp only [thn, inBlk])
      | fail)
    simp [bodyQ, thn, inBlk, resA, resV, go_sem]
    exact rdr_iff.2 ⟨a, cap, by rw [hL]; exact k2.tail⟩
  have hbn' : ¬ (body.length : Int) < n := by omega
  have hn : nxt (c :: x :: y :: body) 0 = (some ((c.toNat : Int), body.take n), body.drop n, 0) := by simp [nxt, h4, ← hnn, h512, hbn]
  rw [hn]
  (repeat' first
    | refine AWP.seq ?_
    | refine AWP.block ?_
    | (refine AWP.skip ?_; try dsimp only [thn, inBlk])
    | (refine AWP.exit ?_; try simp only [thn, inBlk, if_true])
    | (refine AWP.ret ?_; try dsimp only [thn, inBlk])
    | (refine AWP.condT ?_ ?_; (focus (simp [go_sem, c2, hlen, p0, q0, g0, h4', hs', p1, q1, g1, p2, q2, g2, wx, wy, w8, wo, wn, wl, h512', hbn']; done)))
    | (refine AWP.condF ?_ ?_; (focus (simp [go_sem, c2, hlen, p0, q0, g0, h4', hs', p1, q1, g1, p2, q2, g2, wx, wy, w8, wo, wn, wl, h512', hbn']; done)))
    | (apply AWP.rE; (focus (simp [go_sem, c2, hlen, p0, q0, g0, h4', hs', p1, q1, g1, p2, q2, g2, wx, wy, w8, wo, wn, wl, h512', hbn']; exact ⟨rfl, rfl⟩)); try dsimp only [thn, inBlk])
    | (apply AWP.dE hmix [.n 0 [0], .n 1 [37], .n 2 [38], .n 3 [39], .n 4 [40], .n 5 [41], .n 6 [42], .n 7 [43], .n 8 [0], .n 9 [45], .n 10 [46], .n 11 [47], .n 12 [48], .n 13 [49], .n 14 [50], .n 15 [44, 51], .n 16 [52]]; (focus kernel_rfl); (focus (simp [go_sem, c2, hlen, p0, q0, g0, h4', hs', p1, q1, g1, p2, q2, g2, wx, wy, w8, wo, wn, wl, h512', hbn']; exact ⟨rfl, rfl⟩)); try dsimp only [thn, inBlk])
    | fail)
  have w3 : IntKind.i64.wrap (3 + (n : Int)) = ((3 + n : Nat) : Int) := by rw [wI64 (by omega) (by omega)]; omega
  obtain ⟨s1, s2⟩ := hb2.piece (P := Try.prog) (t := 26) (e := 5) Try.underlying26 tsz5 (lo := 3) (hi := 3 + n) (by omega) (by omega) (l := some (.int .i64 3)) (u := some (.int .i64 ((3 + n : Nat) : Int))) (.inr ⟨.i64, rfl⟩) (.inr ⟨.i64, rfl⟩)
  have hbody : ((c :: x :: y :: body).take (3 + n)).drop 3 = body.take n := by rw [show 3 + n = n + 3 by omega]; simp
  obtain ⟨N, hN⟩ : ∃ N : Nat, N = 3 + n := ⟨_, rfl⟩
  rw [← hN] at w3 s1 s2 hbody
  rw [hbody] at s2
  have hpiece : ∀ hh, Own O hh (cell h.next (.row [.int .i64 0, .slice none 0 0] 36 2 true false) :: cell i (row (.slice a L cap) 0) :: ob 5 (.slice a L cap) (c :: x :: y :: body) :: R) → Bytes hh (sliceV 1 3 N (.slice a L cap)) (body.take n) := fun hh kk => by
    have := (kk.b2.ob_bytes.piece (P := Try.prog) (t := 26) (e := 5) Try.underlying26 tsz5 (lo := 3) (hi := N) (by omega) (by rw [hL]; omega) (l := some (.int .i64 3)) (u := some (.int .i64 (N : Int))) (.inr ⟨.i64, rfl⟩) (.inr ⟨.i64, rfl⟩)).2
    rw [hbody] at this; exact this
  refine AWP.draw hmix [.n 0 [0], .n 1 [74], .n 2 [75], .n 3 [76], .n 4 [77], .n 5 [78], .n 6 [79], .n 7 [0], .n 8 [81], .n 9 [82], .n 10 [83], .n 11 [4], .n 12 [85], .n 13 [84, 86], .w 14 [87] [3, 5, 6], .n 15 [80, 88], .w 16 [2, 89] []] (by kernel_rfl) ?_
  refine awpD_callR 14 (by rfl) (by rfl) (by simp [go_sem, c2, p0, q0, g0, wc, w3, s1]; exact ⟨rfl, rfl, rfl⟩) (by rfl) (by rfl) (by simp [go_sem]) (by simp [go_sem, c2, p0, q0, g0, wc, w3, s1]; exact ⟨rfl, rfl⟩) (by kernel_rfl) ?_
  refine (clone_calls k2 hpiece (by simp; omega)).mono ?_
  rintro r h' ⟨a2, c2', rfl, k3⟩
  have hlt : (body.take n).length = n := by simp; omega
  rw [hlt] at k3 ⊢
  have c5 := k3.b2.obj
  have c6 := k3.b1.obj
  obtain ⟨j0, u0, r0', e0', z0', ti0', ro0', p0', q0', g0'⟩ := k3.b3.ob_bytes.at (P := Try.prog) (t := 26) Try.underlying26 tsz5 (j := 0) (by simp) (kd := .i64)
  have p0' : indexAddrP Try.prog 26 (.slice a L cap) (.int .i64 0) = some (.pointer (some ⟨j0, u0, none⟩)) := p0'
  cases p0.symm.trans p0'
  simp only [List.getElem_cons_zero] at g0'
  refine ⟨by simp [still, go_sem, c5, p0, q0', g0', wc], ?_⟩
  refine awpD_writeR 1 (by rfl) (by rfl) (by simp [go_sem, wc, c6]; exact ⟨rfl, rfl, rfl⟩) (by rfl) (by rfl) (by simp [go_sem]) (by simp [go_sem, wc, c6]; exact ⟨rfl, rfl⟩) (by simp [still, go_sem, wc, c6]) ?_
  refine awpD_restR (by rfl) (by simp [go_sem]; exact ⟨rfl, rfl, rfl⟩) ?_; try dsimp only [thn, inBlk]
  have k4 := k3.b1.set (.row [.int .i64 c.toNat, .slice a2 n c2'] 36 2 true false)
  have hlR : (c :: x :: y :: body).length = L := hL
  obtain ⟨v5, s5, k5⟩ := k4.b3.ob_slice (P := Try.prog) (t := 26) (e := 5) Try.underlying26 tsz5 (lo := N) (hi := (c :: x :: y :: body).length) (by omega) (Nat.le_refl _) (l := some (.int .i64 N)) (u := none) (.inr ⟨.i64, rfl⟩) (.inl ⟨rfl, rfl⟩)
  obtain ⟨a5, c5', rfl⟩ := k5.os_val
  have hrest : (List.take (c :: x :: y :: body).length (c :: x :: y :: body)).drop N = body.drop n := by
    rw [List.take_length, hN, show 3 + n = n + 3 by omega]; simp
  rw [hrest] at k5 s5
  have c7 := k4.b2.obj
  have hdl : (body.drop n).length = body.length - n := by simp
  rw [hdl] at k5
  have k6 := k5.b3.set (row (.slice a5 (body.length - n) c5') 0)
  have c8 := k6.b2.obj
  (repeat' first
    | refine AWP.seq ?_
    | refine AWP.block ?_
    | (refine AWP.skip ?_; try dsimp only [thn, inBlk])
    | (refine AWP.exit ?_; try simp only [thn, inBlk, if_true])
    | (refine AWP.ret ?_; try dsimp only [thn, inBlk])
    | (refine AWP.condT ?_ ?_; (focus (simp [go_sem, c7, w3, s5, c8]; done)))
    | (refine AWP.condF ?_ ?_; (focus (simp [go_sem, c7, w3, s5, c8]; done)))
    | (apply AWP.rE; (focus (simp [go_sem, c7, w3, s5, c8]; exact ⟨rfl, rfl⟩)); try dsimp only [thn, inBlk])
    | (apply AWP.dE hmix [.n 0 [0], .n 1 [37], .n 2 [38], .n 3 [39], .n 4 [40], .n 5 [41], .n 6 [42], .n 7 [43], .n 8 [0], .n 9 [45], .n 10 [46], .n 11 [47], .n 12 [48], .n 13 [49], .n 14 [50], .n 15 [44, 51], .n 16 [52]]; (focus kernel_rfl); (focus (simp [go_sem, c7, w3, s5, c8]; exact ⟨rfl, rfl⟩)); try dsimp only [thn, inBlk])
    | fail)
  simp [bodyQ, thn, inBlk, resA, resV, go_sem, c8]
  refine ⟨a2, c2', by first | rfl | (simp; done) | (simp; omega), rdr_iff.2 ⟨a5, c5', ?_⟩⟩
  rw [hdl]
  exact (k6.b2.set (.row [.int .i64 c.toNat, .slice a2 n c2'] 36 2 true false)).tail
end L17
