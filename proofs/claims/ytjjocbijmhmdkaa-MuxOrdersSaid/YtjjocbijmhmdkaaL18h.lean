import Derived.Test.YtjjocbijmhmdkaaL18g
open Go Ab Go.Proofs
namespace L18
set_option autoImplicit false
set_option linter.unusedSimpArgs false
set_option linter.unusedVariables false
attribute [local irreducible] mcells
theorem or_u64 {n b : Nat} (hn : n < 2 ^ 56) (hb : b < 256) : ((BitVec.ofInt 64 ((n : Int) * 256) ||| BitVec.ofNat 64 b).toNat : Int) = ((256 * n + b : Nat) : Int) := by
  have e1 : BitVec.ofInt 64 ((n : Int) * 256) = BitVec.ofNat 64 (256 * n) := by
    rw [← BitVec.ofInt_natCast]; congr 1; omega
  rw [e1, BitVec.toNat_or, BitVec.toNat_ofNat, BitVec.toNat_ofNat, Nat.mod_eq_of_lt (by omega), Nat.mod_eq_of_lt (by omega)]
  have := Nat.two_pow_add_eq_or_of_lt (i := 8) hb n
  norm_cast
  rw [← this]
theorem or_i64 {x y : Nat} (hx : x < 256) (hy : y < 256) : IntKind.i64.wrap (((@BitVec.toNat 64 (@HOr.hOr (BitVec 64) (BitVec 64) (BitVec 64) (@instHOrOfOrOp (BitVec IntKind.i64.bits) (@BitVec.instOrOp IntKind.i64.bits)) (BitVec.ofInt 64 ((x : Int) * 256)) (BitVec.ofNat 64 y)) : Nat) : Int)) = ((256 * x + y : Nat) : Int) :=
  (congrArg IntKind.i64.wrap (or_u64 (n := x) (b := y) (by omega) hy)).trans (wI64 (by omega) (by omega))
def toldF (op ch n : Nat) : Int × List UInt8 := (4, [UInt8.ofNat op, UInt8.ofNat ch, UInt8.ofNat (n / 256), UInt8.ofNat (n % 256)])
theorem told_calls {O : Old} {h : AHeap} {R : List Chunk} (k : Own O h R) {op ch n : Nat} (h1 : op < 256) (h2 : ch < 256) (h3 : n < 65536) :
    ACalls Try.prog 34 #[.int .i64 op, .int .i64 ch, .int .i64 n] h fun r h' => ∃ a, r = .agg #[.int .i64 4, .slice a 4 4] ∧ Own O h' (ob 5 (.slice a 4 4) (toldF op ch n).2 :: R) := by
  refine ACalls.of_awp (args := [.int .i64 op, .int .i64 ch, .int .i64 n]) (n := 18) Try.func34 rfl rfl (by show 3 ≤ 18; omega) ?_
  obtain ⟨m, hm⟩ : ∃ m, m = n / 256 := ⟨_, rfl⟩
  have w1 : IntKind.u8.wrap (op : Int) = ((UInt8.ofNat op).toNat : Nat) := by rw [wU8 (by omega) (by omega)]; simp [UInt8.toNat_ofNat]; omega
  have w2 : IntKind.u8.wrap (ch : Int) = ((UInt8.ofNat ch).toNat : Nat) := by rw [wU8 (by omega) (by omega)]; simp [UInt8.toNat_ofNat]; omega
  have w0 : IntKind.i64.wrap (m : Int) = m := wI64 (by omega) (by omega)
  have w3 : IntKind.u8.wrap (m : Int) = ((UInt8.ofNat m).toNat : Nat) := by rw [wU8 (by omega) (by omega)]; simp [UInt8.toNat_ofNat]; omega
  have w4 : IntKind.u8.wrap (n : Int) = ((UInt8.ofNat (n % 256)).toNat : Nat) := by simp [IntKind.wrap, IntKind.bits, IntKind.signed, UInt8.toNat_ofNat]
  have w5 : (n : Int).fdiv 256 = m := by rw [hm]; rw [Int.fdiv_eq_ediv_of_nonneg _ (by omega)]; rfl
  simp only [toldF]
  obtain ⟨x0, hx0⟩ : ∃ x, x = UInt8.ofNat op := ⟨_, rfl⟩
  obtain ⟨x1, hx1⟩ : ∃ x, x = UInt8.ofNat ch := ⟨_, rfl⟩
  obtain ⟨x2, hx2⟩ : ∃ x, x = UInt8.ofNat m := ⟨_, rfl⟩
  obtain ⟨x3, hx3⟩ : ∃ x, x = UInt8.ofNat (n % 256) := ⟨_, rfl⟩
  rw [← hx0] at w1
  rw [← hx1] at w2
  rw [← hx2] at w3
  rw [← hx3] at w4
  rw [← hm, ← hx0, ← hx1, ← hx2, ← hx3]
  have k1 := k.push (.row [.int .i64 0, .slice none 0 0] 30 2 true false)
  have c1 := (k1.push (.row [.int .u8 x0.toNat, .int .u8 x1.toNat, .int .u8 x2.toNat, .int .u8 x3.toNat] 5 1 true false)).b1.obj
  have k2 := k1.tail.push (.row [.int .u8 x0.toNat, .int .u8 x1.toNat, .int .u8 x2.toNat, .int .u8 x3.toNat] 5 1 true false)
  have k3 : Own O _ (ob 5 (.slice (some ⟨h.next + 1, 0, none⟩) 4 4) [x0, x1, x2, x3] :: R) := k2.row_any (n := 4) rfl
  (repeat' first
    | refine AWP.seq ?_
    | refine AWP.block ?_
    | (refine AWP.skip ?_; try dsimp only [thn, inBlk])
    | (refine AWP.exit ?_; try simp only [thn, inBlk, if_true, reduceIte, Nat.reduceEqDiff])
    | (refine AWP.ret ?_; try dsimp only [thn, inBlk])
    | (refine AWP.condT ?_ ?_; (focus (simp [go_sem, w0, w1, w2, w3, w4, w5, c1]; done)))
    | (refine AWP.condF ?_ ?_; (focus (simp [go_sem, w0, w1, w2, w3, w4, w5, c1]; done)))
    | (apply AWP.rE; (focus (simp [go_sem, w0, w1, w2, w3, w4, w5, c1]; exact ⟨rfl, rfl⟩)); try dsimp only [thn, inBlk])
    | fail)
  have k4 := (k1.push (.row [.int .u8 x0.toNat, .int .u8 x1.toNat, .int .u8 x2.toNat, .int .u8 x3.toNat] 5 1 true false)).b1.set (.row [.int .i64 4, .slice (some ⟨h.next + 1, 0, none⟩) 4 4] 30 2 true false)
  have c4 := k4.obj
  simp [bodyQ, thn, inBlk, resA, resV, go_sem, c4]
  exact (k4.tail).row_any (n := 4) rfl
def mctrl (o : List Hf) (i : List Ot) : List UInt8 → Int × List Hf × List Ot
  | [b0, b1, b2, b3] =>
    if 4 ≤ b1.toNat then (21, o, i) else
    let n := 256 * b2.toNat + b3.toNat
    let x := hg o b1.toNat
    let y := og i b1.toNat
    if b0.toNat = 1 then if 1024 - x.credit < n then (101, o, i) else (0, o.set b1.toNat ⟨x.wait, x.credit + n, x.closed, x.told⟩, i)
    else if b0.toNat ≠ 2 ∨ n ≠ 0 then (21, o, i)
    else if y.ended then (102, o, i) else (0, o, i.set b1.toNat ⟨y.come, y.room, y.untold, true⟩)
  | _ => (21, o, i)
set_option maxHeartbeats 2000000 in
theorem control_calls {O : Old} {h : AHeap} {R : List Chunk} {b : Nat} {o : List Hf} {i : List Ot} {v : Value} {d : List UInt8} (k : Own O h (mux b o i :: R)) (mi : MI o i) (hx : ∀ h, Own O h R → Bytes h v d) :
    ACalls Try.prog 33 #[ptr b, v] h fun r h' => r = .int .i64 (mctrl o i d).1 ∧ Own O h' (mux b (mctrl o i d).2.1 (mctrl o i d).2.2 :: R) := by
  refine ACalls.of_awp (args := [ptr b, v]) (n := 78) Try.func33 rfl rfl (by show 2 ≤ 78; omega) ?_
  have hv := hx _ k.tail
  obtain ⟨va, vcap, rfl⟩ := hv.val
  by_cases hl : d.length = 4
  rotate_left
  · have e : mctrl o i d = (21, o, i) := by
      unfold mctrl
      split
      · simp at hl
      · rfl
    have hl2 : ((d.length : Int) != 4) = true := by
      simp; omega
    rw [e]
    (repeat' first
      | refine AWP.seq ?_
      | refine AWP.block ?_
      | (refine AWP.skip ?_; try dsimp only [thn, inBlk])
      | (refine AWP.exit ?_; try simp only [thn, inBlk, if_true, reduceIte, Nat.reduceEqDiff])
      | (refine AWP.ret ?_; try dsimp only [thn, inBlk])
      | (refine AWP.condT ?_ ?_; (focus (simp [go_sem, hl, hl2]; done)))
      | (refine AWP.condF ?_ ?_; (focus (simp [go_sem, hl, hl2]; done)))
      | (apply AWP.rE; (focus (simp [go_sem, hl, hl2]; exact ⟨rfl, rfl⟩)); try dsimp only [thn, inBlk])
      | (apply AWP.dE hmix [.n 0 [1], .n 1 [17], .n 2 [18], .n 3 [19], .n 4 [20], .n 5 [1], .n 6 [22], .n 7 [23], .n 8 [24], .n 9 [21, 25], .n 10 [26]]; (focus kernel_rfl); (focus (simp [go_sem, hl, hl2]; exact ⟨rfl, rfl⟩)); try dsimp only [thn, inBlk])
      | (apply AWP.dE hmix [.n 0 [0], .n 1 [1], .n 2 [28], .n 3 [29], .n 4 [27], .n 5 [31], .n 6 [32, 30], .n 7 [0], .n 8 [1], .n 9 [35], .n 10 [36], .n 11 [34], .n 12 [38], .n 13 [39, 37], .n 14 [33], .n 15 [40]]; (focus kernel_rfl); (focus (simp [go_sem, hl, hl2]; exact ⟨rfl, rfl⟩)); try dsimp only [thn, inBlk])
      | fail)
    simp [bodyQ, thn, inBlk, resA, resV, go_sem]
    exact k
  obtain ⟨y0, y1, y2, y3, rfl⟩ : ∃ y0 y1 y2 y3, d = [y0, y1, y2, y3] := by
    rcases d with _ | ⟨y0, _ | ⟨y1, _ | ⟨y2, _ | ⟨y3, _ | ⟨y4, d⟩⟩⟩⟩⟩ <;> simp at hl
    exact ⟨_, _, _, _, rfl⟩
  obtain ⟨i0, o0, r0, e0, z0, ti0, ro0, p0, q0, g0⟩ := hv.at (P := Try.prog) (t := 28) Try.underlying28 tsz5 (j := 0) (by simp) (kd := .i64)
  obtain ⟨i1, o1, r1, e1, z1, ti1, ro1, p1, q1, g1⟩ := hv.at (P := Try.prog) (t := 28) Try.underlying28 tsz5 (j := 1) (by simp) (kd := .i64)
  obtain ⟨i2, o2, r2, e2, z2, ti2, ro2, p2, q2, g2⟩ := hv.at (P := Try.prog) (t := 28) Try.underlying28 tsz5 (j := 2) (by simp) (kd := .i64)
  obtain ⟨i3, o3, r3, e3, z3, ti3, ro3, p3, q3, g3⟩ := hv.at (P := Try.prog) (t := 28) Try.underlying28 tsz5 (j := 3) (by simp) (kd := .i64)
  have p0' : indexAddrP Try.prog 28 (.slice va 4 vcap) (.int .i64 0) = some (.pointer (some ⟨i0, o0, none⟩)) := p0
  have p1' : indexAddrP Try.prog 28 (.slice va 4 vcap) (.int .i64 1) = some (.pointer (some ⟨i1, o1, none⟩)) := p1
  have p2' : indexAddrP Try.prog 28 (.slice va 4 vcap) (.int .i64 2) = some (.pointer (some ⟨i2, o2, none⟩)) := p2
  have p3' : indexAddrP Try.prog 28 (.slice va 4 vcap) (.int .i64 3) = some (.pointer (some ⟨i3, o3, none⟩)) := p3
  simp only [List.getElem_cons_zero, List.getElem_cons_succ] at g0 g1 g2 g3
  have l2 := y2.toNat_lt
  have l3 := y3.toNat_lt
  by_cases h4 : 4 ≤ y1.toNat
  · have h4' : (4 : Int) ≤ (y1.toNat : Int) := by omega
    have e : mctrl o i [y0, y1, y2, y3] = (21, o, i) := by simp [mctrl, h4]
    rw [e]
    (repeat' first
      | refine AWP.seq ?_
      | refine AWP.block ?_
      | (refine AWP.skip ?_; try dsimp only [thn, inBlk])
      | (refine AWP.exit ?_; try simp only [thn, inBlk, if_true, reduceIte, Nat.reduceEqDiff])
      | (refine AWP.ret ?_; try dsimp only [thn, inBlk])
      | (refine AWP.condT ?_ ?_; (focus (simp [go_sem, p1', q1, g1, h4, h4']; done)))
      | (refine AWP.condF ?_ ?_; (focus (simp [go_sem, p1', q1, g1, h4, h4']; done)))
      | (apply AWP.rE; (focus (simp [go_sem, p1', q1, g1, h4, h4']; exact ⟨rfl, rfl⟩)); try dsimp only [thn, inBlk])
      | (apply AWP.dE hmix [.n 0 [1], .n 1 [17], .n 2 [18], .n 3 [19], .n 4 [20], .n 5 [1], .n 6 [22], .n 7 [23], .n 8 [24], .n 9 [21, 25], .n 10 [26]]; (focus kernel_rfl); (focus (simp [go_sem, p1', q1, g1, h4, h4']; exact ⟨rfl, rfl⟩)); try dsimp only [thn, inBlk])
      | (apply AWP.dE hmix [.n 0 [0], .n 1 [1], .n 2 [28], .n 3 [29], .n 4 [27], .n 5 [31], .n 6 [32, 30], .n 7 [0], .n 8 [1], .n 9 [35], .n 10 [36], .n 11 [34], .n 12 [38], .n 13 [39, 37], .n 14 [33], .n 15 [40]]; (focus kernel_rfl); (focus (simp [go_sem, p1', q1, g1, h4, h4']; exact ⟨rfl, rfl⟩)); try dsimp only [thn, inBlk])
      | fail)
    simp [bodyQ, thn, inBlk, resA, resV, go_sem]
    exact k
  have h4' : ¬ (4 : Int) ≤ (y1.toNat : Int) := by omega
  have hn : y1.toNat < 4 := by omega
  have hi : (y1.toNat : Int) < 4 := by omega
  have wx : IntKind.i64.wrap (y2.toNat : Int) = y2.toNat := wI64 (by omega) (by omega)
  have wy : IntKind.i64.wrap (y3.toNat : Int) = y3.toNat := wI64 (by omega) (by omega)
  have wsh : IntKind.i64.wrap ((y2.toNat : Int) * 256) = (y2.toNat : Int) * 256 := wI64 (by omega) (by omega)
  have hor := or_i64 (x := y2.toNat) (y := y3.toNat) (by omega) (by omega)
  have hnn : ∃ n : Nat, n = 256 * y2.toNat + y3.toNat := ⟨_, rfl⟩
  obtain ⟨n, hnn⟩ := hnn
  rw [← hnn] at hor
  have hcr0 := mi.cr0 y1.toNat
  have hcr1 := mi.cr1 y1.toNat
  by_cases hb1 : y0.toNat = 1
  · have hb1' : ((y0.toNat : Int) == 1) = true := by rw [hb1]; rfl
    obtain ⟨ws, us, k4, kt⟩ := mux_outO hn k
    have fb := (k4.fo hn).b
    have fl := m_len k4
    have c1 := kt.tail.obj
    have f1 := (k4.fo hn).o1
    have w1 : IntKind.i64.wrap (1024 - (hg o y1.toNat).credit) = 1024 - (hg o y1.toNat).credit := wI64 (by omega) (by omega)
    by_cases hc : 1024 - (hg o y1.toNat).credit < n
    · have e : mctrl o i [y0, y1, y2, y3] = (101, o, i) := by simp [mctrl, h4, hb1, ← hnn, hc]
      rw [e]
      (repeat' first
        | refine AWP.seq ?_
        | refine AWP.block ?_
        | (refine AWP.skip ?_; try dsimp only [thn, inBlk])
        | (refine AWP.exit ?_; try simp only [thn, inBlk, if_true, reduceIte, Nat.reduceEqDiff])
        | (refine AWP.ret ?_; try dsimp only [thn, inBlk])
        | (refine AWP.condT ?_ ?_; (focus (simp [go_sem, p0', q0, g0, p1', q1, g1, p2', q2, g2, p3', q3, g3, h4, h4', hi, wx, wy, wsh, hor, hb1, c1, fl, fb, f1, w1, hc]; done)))
        | (refine AWP.condF ?_ ?_; (focus (simp [go_sem, p0', q0, g0, p1', q1, g1, p2', q2, g2, p3', q3, g3, h4, h4', hi, wx, wy, wsh, hor, hb1, c1, fl, fb, f1, w1, hc]; done)))
        | (apply AWP.rE; (focus (simp [go_sem, p0', q0, g0, p1', q1, g1, p2', q2, g2, p3', q3, g3, h4, h4', hi, wx, wy, wsh, hor, hb1, c1, fl, fb, f1, w1, hc]; exact ⟨rfl, rfl⟩)); try dsimp only [thn, inBlk])
        | (apply AWP.dE hmix [.n 0 [1], .n 1 [17], .n 2 [18], .n 3 [19], .n 4 [20], .n 5 [1], .n 6 [22], .n 7 [23], .n 8 [24], .n 9 [21, 25], .n 10 [26]]; (focus kernel_rfl); (focus (simp [go_sem, p0', q0, g0, p1', q1, g1, p2', q2, g2, p3', q3, g3, h4, h4', hi, wx, wy, wsh, hor, hb1, c1, fl, fb, f1, w1, hc]; exact ⟨rfl, rfl⟩)); try dsimp only [thn, inBlk])
        | (apply AWP.dE hmix [.n 0 [0], .n 1 [1], .n 2 [28], .n 3 [29], .n 4 [27], .n 5 [31], .n 6 [32, 30], .n 7 [0], .n 8 [1], .n 9 [35], .n 10 [36], .n 11 [34], .n 12 [38], .n 13 [39, 37], .n 14 [33], .n 15 [40]]; (focus kernel_rfl); (focus (simp [go_sem, p0', q0, g0, p1', q1, g1, p2', q2, g2, p3', q3, g3, h4, h4', hi, wx, wy, wsh, hor, hb1, c1, fl, fb, f1, w1, hc]; exact ⟨rfl, rfl⟩)); try dsimp only [thn, inBlk])
        | fail)
      simp [bodyQ, thn, inBlk, resA, resV, go_sem]
      exact k
    · have e : mctrl o i [y0, y1, y2, y3] = (0, o.set y1.toNat ⟨(hg o y1.toNat).wait, (hg o y1.toNat).credit + n, (hg o y1.toNat).closed, (hg o y1.toNat).told⟩, i) := by simp [mctrl, h4, hb1, ← hnn, hc]
      rw [e]
      have w2 : IntKind.i64.wrap ((hg o y1.toNat).credit + (n : Int)) = (hg o y1.toNat).credit + (n : Int) := wI64 (by omega) (by omega)
      have e4 := so1 k4 hn ((hg o y1.toNat).credit + n)
      have k5 := kt.b1.set (mrow (o.set y1.toNat ⟨(hg o y1.toNat).wait, (hg o y1.toNat).credit + n, (hg o y1.toNat).closed, (hg o y1.toNat).told⟩) ws i us)
      (repeat' first
        | refine AWP.seq ?_
        | refine AWP.block ?_
        | (refine AWP.skip ?_; try dsimp only [thn, inBlk])
        | (refine AWP.exit ?_; try simp only [thn, inBlk, if_true, reduceIte, Nat.reduceEqDiff])
        | (refine AWP.ret ?_; try dsimp only [thn, inBlk])
        | (refine AWP.condT ?_ ?_; (focus (simp [go_sem, p0', q0, g0, p1', q1, g1, p2', q2, g2, p3', q3, g3, h4, h4', hi, wx, wy, wsh, hor, hb1, c1, fl, fb, f1, w1, hc, w2, e4]; done)))
        | (refine AWP.condF ?_ ?_; (focus (simp [go_sem, p0', q0, g0, p1', q1, g1, p2', q2, g2, p3', q3, g3, h4, h4', hi, wx, wy, wsh, hor, hb1, c1, fl, fb, f1, w1, hc, w2, e4]; done)))
        | (apply AWP.rE; (focus (simp [go_sem, p0', q0, g0, p1', q1, g1, p2', q2, g2, p3', q3, g3, h4, h4', hi, wx, wy, wsh, hor, hb1, c1, fl, fb, f1, w1, hc, w2, e4]; exact ⟨rfl, rfl⟩)); try dsimp only [thn, inBlk])
        | (apply AWP.dE hmix [.n 0 [1], .n 1 [17], .n 2 [18], .n 3 [19], .n 4 [20], .n 5 [1], .n 6 [22], .n 7 [23], .n 8 [24], .n 9 [21, 25], .n 10 [26]]; (focus kernel_rfl); (focus (simp [go_sem, p0', q0, g0, p1', q1, g1, p2', q2, g2, p3', q3, g3, h4, h4', hi, wx, wy, wsh, hor, hb1, c1, fl, fb, f1, w1, hc, w2, e4]; exact ⟨rfl, rfl⟩)); try dsimp only [thn, inBlk])
        | (apply AWP.dE hmix [.n 0 [0], .n 1 [1], .n 2 [28], .n 3 [29], .n 4 [27], .n 5 [31], .n 6 [32, 30], .n 7 [0], .n 8 [1], .n 9 [35], .n 10 [36], .n 11 [34], .n 12 [38], .n 13 [39, 37], .n 14 [33], .n 15 [40]]; (focus kernel_rfl); (focus (simp [go_sem, p0', q0, g0, p1', q1, g1, p2', q2, g2, p3', q3, g3, h4, h4', hi, wx, wy, wsh, hor, hb1, c1, fl, fb, f1, w1, hc, w2, e4]; exact ⟨rfl, rfl⟩)); try dsimp only [thn, inBlk])
        | fail)
      simp [bodyQ, thn, inBlk, resA, resV, go_sem]
      exact mux_inO' hn k4 _ rfl k5.b1
  have hb1' : ((y0.toNat : Int) == 1) = false := by simp; omega
  by_cases hb2 : y0.toNat = 2
  rotate_left
  · have hb2' : ((y0.toNat : Int) != 2) = true := by simp; omega
    have e : mctrl o i [y0, y1, y2, y3] = (21, o, i) := by simp [mctrl, h4, hb1, hb2]
    rw [e]
    obtain ⟨ws, us, k4, kt⟩ := mux_outO hn k
    have fb := (k4.fo hn).b
    have fl := m_len k4
    have c1 := kt.tail.obj
    (repeat' first
      | refine AWP.seq ?_
      | refine AWP.block ?_
      | (refine AWP.skip ?_; try dsimp only [thn, inBlk])
      | (refine AWP.exit ?_; try simp only [thn, inBlk, if_true, reduceIte, Nat.reduceEqDiff])
      | (refine AWP.ret ?_; try dsimp only [thn, inBlk])
      | (refine AWP.condT ?_ ?_; (focus (simp [go_sem, p0', q0, g0, p1', q1, g1, p2', q2, g2, p3', q3, g3, h4, h4', hi, wx, wy, wsh, hor, hb1, hb1', hb2, hb2', c1, fl, fb]; done)))
      | (refine AWP.condF ?_ ?_; (focus (simp [go_sem, p0', q0, g0, p1', q1, g1, p2', q2, g2, p3', q3, g3, h4, h4', hi, wx, wy, wsh, hor, hb1, hb1', hb2, hb2', c1, fl, fb]; done)))
      | (apply AWP.rE; (focus (simp [go_sem, p0', q0, g0, p1', q1, g1, p2', q2, g2, p3', q3, g3, h4, h4', hi, wx, wy, wsh, hor, hb1, hb1', hb2, hb2', c1, fl, fb]; exact ⟨rfl, rfl⟩)); try dsimp only [thn, inBlk])
      | (apply AWP.dE hmix [.n 0 [1], .n 1 [17], .n 2 [18], .n 3 [19], .n 4 [20], .n 5 [1], .n 6 [22], .n 7 [23], .n 8 [24], .n 9 [21, 25], .n 10 [26]]; (focus kernel_rfl); (focus (simp [go_sem, p0', q0, g0, p1', q1, g1, p2', q2, g2, p3', q3, g3, h4, h4', hi, wx, wy, wsh, hor, hb1, hb1', hb2, hb2', c1, fl, fb]; exact ⟨rfl, rfl⟩)); try dsimp only [thn, inBlk])
      | (apply AWP.dE hmix [.n 0 [0], .n 1 [1], .n 2 [28], .n 3 [29], .n 4 [27], .n 5 [31], .n 6 [32, 30], .n 7 [0], .n 8 [1], .n 9 [35], .n 10 [36], .n 11 [34], .n 12 [38], .n 13 [39, 37], .n 14 [33], .n 15 [40]]; (focus kernel_rfl); (focus (simp [go_sem, p0', q0, g0, p1', q1, g1, p2', q2, g2, p3', q3, g3, h4, h4', hi, wx, wy, wsh, hor, hb1, hb1', hb2, hb2', c1, fl, fb]; exact ⟨rfl, rfl⟩)); try dsimp only [thn, inBlk])
      | fail)
    simp [bodyQ, thn, inBlk, resA, resV, go_sem]
    exact k
  by_cases hn0 : n = 0
  rotate_left
  · have hn0' : ((n : Int) != 0) = true := by simp; omega
    have e : mctrl o i [y0, y1, y2, y3] = (21, o, i) := by simp [mctrl, h4, hb1, hb2, ← hnn, hn0]
    rw [e]
    obtain ⟨ws, us, k4, kt⟩ := mux_outO hn k
    have fb := (k4.fo hn).b
    have fl := m_len k4
    have c1 := kt.tail.obj
    (repeat' first
      | refine AWP.seq ?_
      | refine AWP.block ?_
      | (refine AWP.skip ?_; try dsimp only [thn, inBlk])
      | (refine AWP.exit ?_; try simp only [thn, inBlk, if_true, reduceIte, Nat.reduceEqDiff])
      | (refine AWP.ret ?_; try dsimp only [thn, inBlk])
      | (refine AWP.condT ?_ ?_; (focus (simp [go_sem, p0', q0, g0, p1', q1, g1, p2', q2, g2, p3', q3, g3, h4, h4', hi, wx, wy, wsh, hor, hb1, hb1', hb2, hn0, hn0', c1, fl, fb]; done)))
      | (refine AWP.condF ?_ ?_; (focus (simp [go_sem, p0', q0, g0, p1', q1, g1, p2', q2, g2, p3', q3, g3, h4, h4', hi, wx, wy, wsh, hor, hb1, hb1', hb2, hn0, hn0', c1, fl, fb]; done)))
      | (apply AWP.rE; (focus (simp [go_sem, p0', q0, g0, p1', q1, g1, p2', q2, g2, p3', q3, g3, h4, h4', hi, wx, wy, wsh, hor, hb1, hb1', hb2, hn0, hn0', c1, fl, fb]; exact ⟨rfl, rfl⟩)); try dsimp only [thn, inBlk])
      | (apply AWP.dE hmix [.n 0 [1], .n 1 [17], .n 2 [18], .n 3 [19], .n 4 [20], .n 5 [1], .n 6 [22], .n 7 [23], .n 8 [24], .n 9 [21, 25], .n 10 [26]]; (focus kernel_rfl); (focus (simp [go_sem, p0', q0, g0, p1', q1, g1, p2', q2, g2, p3', q3, g3, h4, h4', hi, wx, wy, wsh, hor, hb1, hb1', hb2, hn0, hn0', c1, fl, fb]; exact ⟨rfl, rfl⟩)); try dsimp only [thn, inBlk])
      | (apply AWP.dE hmix [.n 0 [0], .n 1 [1], .n 2 [28], .n 3 [29], .n 4 [27], .n 5 [31], .n 6 [32, 30], .n 7 [0], .n 8 [1], .n 9 [35], .n 10 [36], .n 11 [34], .n 12 [38], .n 13 [39, 37], .n 14 [33], .n 15 [40]]; (focus kernel_rfl); (focus (simp [go_sem, p0', q0, g0, p1', q1, g1, p2', q2, g2, p3', q3, g3, h4, h4', hi, wx, wy, wsh, hor, hb1, hb1', hb2, hn0, hn0', c1, fl, fb]; exact ⟨rfl, rfl⟩)); try dsimp only [thn, inBlk])
      | fail)
    simp [bodyQ, thn, inBlk, resA, resV, go_sem]
    exact k
  subst hn0
  obtain ⟨ws, us, k4, kt⟩ := mux_outI hn k
  have fb := (k4.fo hn).b
  have fl := m_len k4
  have c1 := kt.tail.obj
  have f3 := (k4.fo hn).i3
  cases he : (og i y1.toNat).ended <;> rw [he] at f3
  · have e : mctrl o i [y0, y1, y2, y3] = (0, o, i.set y1.toNat ⟨(og i y1.toNat).come, (og i y1.toNat).room, (og i y1.toNat).untold, true⟩) := by simp [mctrl, h4, hb1, hb2, ← hnn, he]
    rw [e]
    have e4 := si3 k4 hn true
    have k5 := kt.b1.set (mrow o ws (i.set y1.toNat ⟨(og i y1.toNat).come, (og i y1.toNat).room, (og i y1.toNat).untold, true⟩) us)
    (repeat' first
      | refine AWP.seq ?_
      | refine AWP.block ?_
      | (refine AWP.skip ?_; try dsimp only [thn, inBlk])
      | (refine AWP.exit ?_; try simp only [thn, inBlk, if_true, reduceIte, Nat.reduceEqDiff])
      | (refine AWP.ret ?_; try dsimp only [thn, inBlk])
      | (refine AWP.condT ?_ ?_; (focus (simp [go_sem, p0', q0, g0, p1', q1, g1, p2', q2, g2, p3', q3, g3, h4, h4', hi, wx, wy, wsh, hor, hb1, hb1', hb2, c1, fl, fb, f3, e4]; done)))
      | (refine AWP.condF ?_ ?_; (focus (simp [go_sem, p0', q0, g0, p1', q1, g1, p2', q2, g2, p3', q3, g3, h4, h4', hi, wx, wy, wsh, hor, hb1, hb1', hb2, c1, fl, fb, f3, e4]; done)))
      | (apply AWP.rE; (focus (simp [go_sem, p0', q0, g0, p1', q1, g1, p2', q2, g2, p3', q3, g3, h4, h4', hi, wx, wy, wsh, hor, hb1, hb1', hb2, c1, fl, fb, f3, e4]; exact ⟨rfl, rfl⟩)); try dsimp only [thn, inBlk])
      | (apply AWP.dE hmix [.n 0 [1], .n 1 [17], .n 2 [18], .n 3 [19], .n 4 [20], .n 5 [1], .n 6 [22], .n 7 [23], .n 8 [24], .n 9 [21, 25], .n 10 [26]]; (focus kernel_rfl); (focus (simp [go_sem, p0', q0, g0, p1', q1, g1, p2', q2, g2, p3', q3, g3, h4, h4', hi, wx, wy, wsh, hor, hb1, hb1', hb2, c1, fl, fb, f3, e4]; exact ⟨rfl, rfl⟩)); try dsimp only [thn, inBlk])
      | (apply AWP.dE hmix [.n 0 [0], .n 1 [1], .n 2 [28], .n 3 [29], .n 4 [27], .n 5 [31], .n 6 [32, 30], .n 7 [0], .n 8 [1], .n 9 [35], .n 10 [36], .n 11 [34], .n 12 [38], .n 13 [39, 37], .n 14 [33], .n 15 [40]]; (focus kernel_rfl); (focus (simp [go_sem, p0', q0, g0, p1', q1, g1, p2', q2, g2, p3', q3, g3, h4, h4', hi, wx, wy, wsh, hor, hb1, hb1', hb2, c1, fl, fb, f3, e4]; exact ⟨rfl, rfl⟩)); try dsimp only [thn, inBlk])
      | fail)
    simp [bodyQ, thn, inBlk, resA, resV, go_sem]
    exact mux_inI' hn k4 _ rfl k5.b1
  · have e : mctrl o i [y0, y1, y2, y3] = (102, o, i) := by simp [mctrl, h4, hb1, hb2, ← hnn, he]
    rw [e]
    (repeat' first
      | refine AWP.seq ?_
      | refine AWP.block ?_
      | (refine AWP.skip ?_; try dsimp only [thn, inBlk])
      | (refine AWP.exit ?_; try simp only [thn, inBlk, if_true, reduceIte, Nat.reduceEqDiff])
      | (refine AWP.ret ?_; try dsimp only [thn, inBlk])
      | (refine AWP.condT ?_ ?_; (focus (simp [go_sem, p0', q0, g0, p1', q1, g1, p2', q2, g2, p3', q3, g3, h4, h4', hi, wx, wy, wsh, hor, hb1, hb1', hb2, c1, fl, fb, f3]; done)))
      | (refine AWP.condF ?_ ?_; (focus (simp [go_sem, p0', q0, g0, p1', q1, g1, p2', q2, g2, p3', q3, g3, h4, h4', hi, wx, wy, wsh, hor, hb1, hb1', hb2, c1, fl, fb, f3]; done)))
      | (apply AWP.rE; (focus (simp [go_sem, p0', q0, g0, p1', q1, g1, p2', q2, g2, p3', q3, g3, h4, h4', hi, wx, wy, wsh, hor, hb1, hb1', hb2, c1, fl, fb, f3]; exact ⟨rfl, rfl⟩)); try dsimp only [thn, inBlk])
      | (apply AWP.dE hmix [.n 0 [1], .n 1 [17], .n 2 [18], .n 3 [19], .n 4 [20], .n 5 [1], .n 6 [22], .n 7 [23], .n 8 [24], .n 9 [21, 25], .n 10 [26]]; (focus kernel_rfl); (focus (simp [go_sem, p0', q0, g0, p1', q1, g1, p2', q2, g2, p3', q3, g3, h4, h4', hi, wx, wy, wsh, hor, hb1, hb1', hb2, c1, fl, fb, f3]; exact ⟨rfl, rfl⟩)); try dsimp only [thn, inBlk])
      | (apply AWP.dE hmix [.n 0 [0], .n 1 [1], .n 2 [28], .n 3 [29], .n 4 [27], .n 5 [31], .n 6 [32, 30], .n 7 [0], .n 8 [1], .n 9 [35], .n 10 [36], .n 11 [34], .n 12 [38], .n 13 [39, 37], .n 14 [33], .n 15 [40]]; (focus kernel_rfl); (focus (simp [go_sem, p0', q0, g0, p1', q1, g1, p2', q2, g2, p3', q3, g3, h4, h4', hi, wx, wy, wsh, hor, hb1, hb1', hb2, c1, fl, fb, f3]; exact ⟨rfl, rfl⟩)); try dsimp only [thn, inBlk])
      | fail)
    simp [bodyQ, thn, inBlk, resA, resV, go_sem]
    exact k
end L18
