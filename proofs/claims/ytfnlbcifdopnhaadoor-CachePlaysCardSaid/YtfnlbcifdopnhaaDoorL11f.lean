import Derived.Test.YtfnlbcifdopnhaaDoorL11e
open Go Ab Go.Proofs
namespace L11
set_option autoImplicit false
set_option linter.unusedSimpArgs false
set_option linter.unusedVariables false

/-! ### Bytes of numbers, and fields (of what is written only the length is told) -/
section
variable {O : Old} {h : AHeap} {R : List Chunk}
set_option maxHeartbeats 4000000 in
theorem reverse_calls {v : Value} {bs : List UInt8} (k : Own O h (ob 5 v bs :: R)) (hm : bs.length ≤ 1000000) :
    ACalls Tryd.prog 47 #[v] h fun r h' => ∃ bs' : List UInt8, bs'.length = bs.length ∧ Own O h' (ob 5 v bs' :: R) := by
  obtain ⟨a, cap, rfl⟩ := k.os_val
  generalize hn : bs.length = n at *
  refine ACalls.of_awp (args := [.slice a n cap]) (n := 28) Tryd.func47 rfl rfl (by show 1 ≤ 28; omega) ?_
  have w0 : IntKind.i64.wrap ((n : Int) - 1) = (n : Int) - 1 := wI64 (by omega) (by omega)
  (repeat' first
    | refine AWP.seq ?_
    | refine AWP.block ?_
    | (refine AWP.skip ?_; try dsimp only [thn, inBlk])
    | (refine AWP.exit ?_; try simp only [thn, inBlk, if_true, reduceIte, Nat.reduceEqDiff])
    | (refine AWP.ret ?_; try dsimp only [thn, inBlk])
    | (refine AWP.condT ?_ ?_; (focus (simp [go_sem, w0]; done)))
    | (refine AWP.condF ?_ ?_; (focus (simp [go_sem, w0]; done)))
    | (apply AWP.rE; (focus (simp [go_sem, w0]; exact ⟨rfl, rfl⟩)); try dsimp only [thn, inBlk])
    | (apply AWP.dE hmix [.n 0 [0], .n 1 [2], .n 2 [0], .n 3 [3], .n 4 [0], .n 5 [3], .n 6 [18, 19], .n 7 [20], .n 8 [0], .n 9 [2], .n 10 [22, 23], .n 11 [24], .n 12 [14, 15], .w 13 [26, 21] [], .n 14 [16, 17], .w 15 [27, 25] []]; (focus kernel_rfl); (focus (simp [go_sem, w0]; exact ⟨rfl, rfl⟩)); try dsimp only [thn, inBlk])
    | fail)
  refine AWP.loopR [0, 2, 3] (fun m s h' => ∃ (i : Nat) (bs' : List UInt8), m = n - i ∧ i ≤ n ∧ s = ⟨28, [(0, .slice a n cap), (2, .int .i64 i), (3, .int .i64 ((n : Int) - 1 - i))]⟩ ∧ bs'.length = n ∧ Own O h' (ob 5 (.slice a n cap) bs' :: R)) ?_ ?_
  · exact ⟨_, 0, bs, rfl, by omega, by simp [go_sem], hn, by rw [← hn]; rw [← hn] at k; exact k⟩
  rintro m s hB ⟨i, bs', rfl, hi, rfl, hl, kB⟩
  by_cases hlt : (i : Int) < (n : Int) - 1 - i
  rotate_left
  · (repeat' first
      | refine AWP.seq ?_
      | refine AWP.block ?_
      | (refine AWP.skip ?_; try dsimp only [thn, inBlk])
      | (refine AWP.exit ?_; try simp only [thn, inBlk, if_true, reduceIte, Nat.reduceEqDiff])
      | (refine AWP.ret ?_; try dsimp only [thn, inBlk])
      | (refine AWP.condT ?_ ?_; (focus (simp [go_sem, hlt]; done)))
      | (refine AWP.condF ?_ ?_; (focus (simp [go_sem, hlt]; done)))
      | (apply AWP.rE; (focus (simp [go_sem, hlt]; exact ⟨rfl, rfl⟩)); try dsimp only [thn, inBlk])
      | (apply AWP.dE hmix [.n 0 [0], .n 1 [2], .n 2 [0], .n 3 [3], .n 4 [0], .n 5 [3], .n 6 [18, 19], .n 7 [20], .n 8 [0], .n 9 [2], .n 10 [22, 23], .n 11 [24], .n 12 [14, 15], .w 13 [26, 21] [], .n 14 [16, 17], .w 15 [27, 25] []]; (focus kernel_rfl); (focus (simp [go_sem, hlt]; exact ⟨rfl, rfl⟩)); try dsimp only [thn, inBlk])
      | fail)
    simp [bodyQ, thn, inBlk, resA, resV, go_sem]
    exact ⟨bs', hl, kB⟩
  obtain ⟨e, he⟩ : ∃ e : Nat, e = n - 1 - i := ⟨_, rfl⟩
  have he' : (n : Int) - 1 - i = (e : Int) := by omega
  have hie : i < e := by omega
  have hil : i < bs'.length := by omega
  have hel : e < bs'.length := by omega
  have hi' : (bs'.map B)[i]? = some (B bs'[i]) := by simp [hil]
  have he2 : (bs'.map B)[e]? = some (B bs'[e]) := by simp [hel]
  obtain ⟨b1, o1, c1, _, _, _, _, p1, q1, r1⟩ := kB.os_sl.at1 (P := Tryd.prog) (t := 27) Tryd.underlying27 tsz5 hil hi' (kd := .i64)
  obtain ⟨b2, o2, c2, _, _, _, _, p2, q2, r2⟩ := kB.os_sl.at1 (P := Tryd.prog) (t := 27) Tryd.underlying27 tsz5 hel he2 (kd := .i64)
  obtain ⟨b3, o3, c3, ti3, p3, q3, m3, k3⟩ := kB.ob_write (P := Tryd.prog) (t := 27) Tryd.underlying27 tsz5 hil bs'[e] (kd := .i64)
  cases p1.symm.trans p3
  cases q1.symm.trans q3
  have hel3 : e < (bs'.set i bs'[e]).length := by rw [List.length_set]; exact hel
  obtain ⟨b4, o4, c4, ti4, p4, q4, m4, k4⟩ := k3.ob_write (P := Tryd.prog) (t := 27) Tryd.underlying27 tsz5 hel3 bs'[i] (kd := .i64)
  cases p2.symm.trans p4
  have w1 : IntKind.i64.wrap ((i : Int) + 1) = ((i + 1 : Nat) : Int) := by rw [wI64 (by omega) (by omega)]; omega
  have w2 : IntKind.i64.wrap ((e : Int) - 1) = (e : Int) - 1 := wI64 (by omega) (by omega)
  rw [he']
  have hie' : (i : Int) < e := by omega
  have m3' : o1 + 1 ≤ c1.length := m3
  have m4' : o2 + 1 ≤ c4.length := m4
  generalize bs'[i] = x at *
  generalize bs'[e] = y at *
  simp only [B] at r1 r2
  (repeat' first
    | refine AWP.seq ?_
    | refine AWP.block ?_
    | (refine AWP.skip ?_; try dsimp only [thn, inBlk])
    | (refine AWP.exit ?_; try simp only [thn, inBlk, if_true, reduceIte, Nat.reduceEqDiff])
    | (refine AWP.ret ?_; try dsimp only [thn, inBlk])
    | (refine AWP.condT ?_ ?_; (focus (simp [go_sem, hie']; done)))
    | (refine AWP.condF ?_ ?_; (focus (simp [go_sem, hie']; done)))
    | (apply AWP.rE; (focus (simp [go_sem, hie']; exact ⟨rfl, rfl⟩)); try dsimp only [thn, inBlk])
    | (apply AWP.dE hmix [.n 0 [0], .n 1 [2], .n 2 [0], .n 3 [3], .n 4 [0], .n 5 [3], .n 6 [18, 19], .n 7 [20], .n 8 [0], .n 9 [2], .n 10 [22, 23], .n 11 [24], .n 12 [14, 15], .w 13 [26, 21] [], .n 14 [16, 17], .w 15 [27, 25] []]; (focus kernel_rfl); (focus (simp [go_sem, hie']; exact ⟨rfl, rfl⟩)); try dsimp only [thn, inBlk])
    | fail)
  refine AWP.draw hmix [.n 0 [0], .n 1 [2], .n 2 [0], .n 3 [3], .n 4 [0], .n 5 [3], .n 6 [18, 19], .n 7 [20], .n 8 [0], .n 9 [2], .n 10 [22, 23], .n 11 [24], .n 12 [14, 15], .w 13 [26, 21] [], .n 14 [16, 17], .w 15 [27, 25] []] (by kernel_rfl) ?_
  refine awpD_writeR 13 (by rfl) (by rfl) (by simp [go_sem, p1, p2, q1, q2, r1, r2, m3']; exact ⟨rfl, rfl, rfl⟩) (by rfl) (by rfl) (by simp [go_sem]) (by simp [go_sem, p1, p2, q1, q2, r1, r2, m3']; exact ⟨rfl, rfl⟩) (by simp [still, go_sem, p1, p2, q1, q2, r1, r2, m3']) ?_
  refine awpD_writeR 1 (by rfl) (by rfl) (by simp [go_sem, p1, p2, q4, m4']; exact ⟨rfl, rfl, rfl⟩) (by rfl) (by rfl) (by simp [go_sem]) (by simp [go_sem, p1, p2, q4, m4']; exact ⟨rfl, rfl⟩) (by simp [still, go_sem, p1, p2, q4, m4']) ?_
  refine awpD_restR (by rfl) (by simp [go_sem]; exact ⟨rfl, rfl, rfl⟩) ?_; try dsimp only [thn, inBlk]
  (repeat' first
    | refine AWP.seq ?_
    | refine AWP.block ?_
    | (refine AWP.skip ?_; try dsimp only [thn, inBlk])
    | (refine AWP.exit ?_; try simp only [thn, inBlk, if_true, reduceIte, Nat.reduceEqDiff])
    | (refine AWP.ret ?_; try dsimp only [thn, inBlk])
    | (refine AWP.condT ?_ ?_; (focus (simp [go_sem, w1, w2]; done)))
    | (refine AWP.condF ?_ ?_; (focus (simp [go_sem, w1, w2]; done)))
    | (apply AWP.rE; (focus (simp [go_sem, w1, w2]; exact ⟨rfl, rfl⟩)); try dsimp only [thn, inBlk])
    | (apply AWP.dE hmix [.n 0 [0], .n 1 [2], .n 2 [0], .n 3 [3], .n 4 [0], .n 5 [3], .n 6 [18, 19], .n 7 [20], .n 8 [0], .n 9 [2], .n 10 [22, 23], .n 11 [24], .n 12 [14, 15], .w 13 [26, 21] [], .n 14 [16, 17], .w 15 [27, 25] []]; (focus kernel_rfl); (focus (simp [go_sem, w1, w2]; exact ⟨rfl, rfl⟩)); try dsimp only [thn, inBlk])
    | fail)
  have e9 : (e : Int) - 1 = (n : Int) - 1 - ((i + 1 : Nat) : Int) := by omega
  refine ⟨n - (i + 1), by omega, i + 1, (bs'.set i y).set e x, rfl, by omega, ?_, ?_, ?_⟩
  · rw [e9]; simp [go_sem]
  · simp [hl]
  · exact k4
set_option maxHeartbeats 4000000 in
theorem num_calls {n : Nat} (k : Own O h R) (hn : n < 18446744073709551616) :
    ACalls Tryd.prog 33 #[.int .u64 n] h fun r h' => ∃ (a : Option Addr) (cap : Nat) (bs : List UInt8), bs.length ≤ 8 ∧ r = .slice a bs.length cap ∧ Own O h' (ob 5 (.slice a bs.length cap) bs :: R) := by
  refine ACalls.of_awp (args := [.int .u64 n]) (n := 15) Tryd.func33 rfl rfl (by show 1 ≤ 15; omega) ?_
  (repeat' first
    | refine AWP.seq ?_
    | refine AWP.block ?_
    | (refine AWP.skip ?_; try dsimp only [thn, inBlk])
    | (refine AWP.exit ?_; try simp only [thn, inBlk, if_true, reduceIte, Nat.reduceEqDiff])
    | (refine AWP.ret ?_; try dsimp only [thn, inBlk])
    | (refine AWP.condT ?_ ?_; (focus (simp [go_sem]; done)))
    | (refine AWP.condF ?_ ?_; (focus (simp [go_sem]; done)))
    | (apply AWP.rE; (focus (simp [go_sem]; exact ⟨rfl, rfl⟩)); try dsimp only [thn, inBlk])
    | fail)
  refine AWP.loopR [0, 2] (fun m s h' => ∃ (x : Nat) (a : Option Addr) (cap : Nat) (bs : List UInt8), bs.length ≤ 8 ∧ m = 8 - bs.length ∧ x < 256 ^ (8 - bs.length) ∧ s = ⟨15, [(0, .int .u64 x), (2, .slice a bs.length cap)]⟩ ∧ Own O h' (ob 5 (.slice a bs.length cap) bs :: R)) ?_ ?_
  · exact ⟨_, n, none, 0, [], by simp, rfl, by simpa using hn, by simp [go_sem], k.nil 5 1⟩
  rintro m s hB ⟨x, a, cap, bs, hl, rfl, hx, rfl, kB⟩
  by_cases h0 : 0 < x
  rotate_left
  · obtain rfl : x = 0 := by omega
    (repeat' first
      | refine AWP.seq ?_
      | refine AWP.block ?_
      | (refine AWP.skip ?_; try dsimp only [thn, inBlk])
      | (refine AWP.exit ?_; try simp only [thn, inBlk, if_true, reduceIte, Nat.reduceEqDiff])
      | (refine AWP.ret ?_; try dsimp only [thn, inBlk])
      | (refine AWP.condT ?_ ?_; (focus (simp [go_sem]; done)))
      | (refine AWP.condF ?_ ?_; (focus (simp [go_sem]; done)))
      | (apply AWP.rE; (focus (simp [go_sem]; exact ⟨rfl, rfl⟩)); try dsimp only [thn, inBlk])
      | fail)
    refine AWP.callE (by simp [go_sem]; exact ⟨rfl, rfl, rfl, rfl, rfl⟩) (by kernel_rfl) ?_
    refine (reverse_calls kB (by omega)).mono ?_
    rintro r h2 ⟨bs', hl', k2⟩
    refine awpL_restE (by simp [go_sem]; exact ⟨rfl, rfl⟩) ?_; try dsimp only [thn, inBlk]
    (repeat' first
      | refine AWP.seq ?_
      | refine AWP.block ?_
      | (refine AWP.skip ?_; try dsimp only [thn, inBlk])
      | (refine AWP.exit ?_; try simp only [thn, inBlk, if_true, reduceIte, Nat.reduceEqDiff])
      | (refine AWP.ret ?_; try dsimp only [thn, inBlk])
      | (refine AWP.condT ?_ ?_; (focus (simp [go_sem]; done)))
      | (refine AWP.condF ?_ ?_; (focus (simp [go_sem]; done)))
      | (apply AWP.rE; (focus (simp [go_sem]; exact ⟨rfl, rfl⟩)); try dsimp only [thn, inBlk])
      | fail)
    simp [bodyQ, thn, inBlk, resA, resV, go_sem]
    exact ⟨a, cap, bs', by omega, ⟨rfl, hl'.symm, rfl⟩, by rw [← hl'] at k2; exact k2⟩
  have h0' : (0 : Int) < x := by omega
  have hx64 : x < 18446744073709551616 := Nat.lt_of_lt_of_le hx (by rw [show (18446744073709551616 : Nat) = 256 ^ 8 from rfl]; exact Nat.pow_le_pow_right (by omega) (by omega))
  have hl8 : bs.length < 8 := by
    refine Nat.lt_of_not_le fun h => ?_
    have : 8 - bs.length = 0 := by omega
    rw [this] at hx; simp at hx; omega
  obtain ⟨c, hc⟩ : ∃ c : UInt8, c = UInt8.ofNat x := ⟨_, rfl⟩
  have wc : IntKind.u8.wrap (x : Int) = (c.toNat : Int) := by rw [hc]; simp [IntKind.wrap, IntKind.bits, IntKind.signed, UInt8.toNat_ofNat]
  obtain ⟨y, hy⟩ : ∃ y, y = x / 256 := ⟨_, rfl⟩
  have wy : (x : Int).fdiv 256 = (y : Int) := by rw [hy, Int.fdiv_eq_ediv_of_nonneg _ (by omega)]; rfl
  have wy2 : IntKind.u64.wrap (y : Int) = (y : Int) := by
    simp [IntKind.wrap, IntKind.bits, IntKind.signed]; omega
  obtain ⟨na, nc, h7, e7, k7⟩ := kB.appB1 (P := Tryd.prog) (t := 27) (xt := 27) (i := hB.next) (c := c) Tryd.underlying27 tsz5 tby5 tz5 nI27 rfl (by omega)
  (repeat' first
    | refine AWP.seq ?_
    | refine AWP.block ?_
    | (refine AWP.skip ?_; try dsimp only [thn, inBlk])
    | (refine AWP.exit ?_; try simp only [thn, inBlk, if_true, reduceIte, Nat.reduceEqDiff])
    | (refine AWP.ret ?_; try dsimp only [thn, inBlk])
    | (refine AWP.condT ?_ ?_; (focus (simp [go_sem, h0, wc, e7, wy, wy2]; done)))
    | (refine AWP.condF ?_ ?_; (focus (simp [go_sem, h0, wc, e7, wy, wy2]; done)))
    | (apply AWP.rE; (focus (simp [go_sem, h0, wc, e7, wy, wy2]; exact ⟨rfl, rfl⟩)); try dsimp only [thn, inBlk])
    | fail)
  refine ⟨8 - (bs.length + 1), by omega, y, na, nc, bs ++ [c], by simp; omega, by simp, ?_, by simp [go_sem], by simpa using k7⟩
  rw [List.length_append, hy]
  have : 8 - bs.length = (8 - (bs.length + 1)) + 1 := by omega
  rw [this, Nat.pow_succ] at hx
  exact Nat.div_lt_of_lt_mul (by rw [Nat.mul_comm]; exact hx)
theorem snum_calls {n : Int} (k : Own O h R) (hn : 0 ≤ n ∧ n < 9223372036854775808) :
    ACalls Tryd.prog 34 #[.int .i64 n] h fun r h' => ∃ (a : Option Addr) (cap : Nat) (bs : List UInt8), bs.length ≤ 8 ∧ r = .slice a bs.length cap ∧ Own O h' (ob 5 (.slice a bs.length cap) bs :: R) := by
  refine ACalls.of_awp (args := [.int .i64 n]) (n := 6) Tryd.func34 rfl rfl (by show 1 ≤ 6; omega) ?_
  obtain ⟨m, rfl⟩ : ∃ m : Nat, n = m := ⟨n.toNat, by omega⟩
  have w1 : IntKind.u64.wrap (m : Int) = (m : Int) := by
    simp [IntKind.wrap, IntKind.bits, IntKind.signed]; omega
  (repeat' first
    | refine AWP.seq ?_
    | refine AWP.block ?_
    | (refine AWP.skip ?_; try dsimp only [thn, inBlk])
    | (refine AWP.exit ?_; try simp only [thn, inBlk, if_true, reduceIte, Nat.reduceEqDiff])
    | (refine AWP.ret ?_; try dsimp only [thn, inBlk])
    | (refine AWP.condT ?_ ?_; (focus (simp [go_sem, w1]; done)))
    | (refine AWP.condF ?_ ?_; (focus (simp [go_sem, w1]; done)))
    | (apply AWP.rE; (focus (simp [go_sem, w1]; exact ⟨rfl, rfl⟩)); try dsimp only [thn, inBlk])
    | fail)
  refine AWP.callE (by simp [go_sem, w1]; exact ⟨rfl, rfl, rfl, rfl, rfl⟩) (by kernel_rfl) ?_
  refine (num_calls k (by omega)).mono ?_
  rintro r h2 ⟨a, cap, bs, hb, rfl, k2⟩
  refine awpL_restE (by simp [go_sem]; exact ⟨rfl, rfl⟩) ?_; try dsimp only [thn, inBlk]
  (repeat' first
    | refine AWP.seq ?_
    | refine AWP.block ?_
    | (refine AWP.skip ?_; try dsimp only [thn, inBlk])
    | (refine AWP.exit ?_; try simp only [thn, inBlk, if_true, reduceIte, Nat.reduceEqDiff])
    | (refine AWP.ret ?_; try dsimp only [thn, inBlk])
    | (refine AWP.condT ?_ ?_; (focus (simp [go_sem]; done)))
    | (refine AWP.condF ?_ ?_; (focus (simp [go_sem]; done)))
    | (apply AWP.rE; (focus (simp [go_sem]; exact ⟨rfl, rfl⟩)); try dsimp only [thn, inBlk])
    | fail)
  simp [bodyQ, thn, inBlk, resA, resV, go_sem]
  exact ⟨a, cap, bs, hb, ⟨rfl, rfl, rfl⟩, k2⟩
/-! ### Fields -/
abbrev Vs := List (Value × List UInt8)
def fcs (t0 : Nat) (vals : Vs) : List (List Value) := vals.mapIdx fun j x => [.int .i64 ((t0 + j : Nat) : Int), x.1]
theorem fcs_len {t0 : Nat} {vals : Vs} : (fcs t0 vals).length = vals.length := by simp [fcs]
theorem fcs_all {t0 : Nat} {vals : Vs} : ∀ x ∈ fcs t0 vals, x.length = 2 := fun x hx => by
  obtain ⟨j, hj, e⟩ := List.mem_iff_getElem.1 hx
  simp [fcs] at e; rw [← e]; rfl
theorem fcs_at {t0 : Nat} {vals : Vs} {j : Nat} {x : Value × List UInt8} (hx : vals[j]? = some x) : (fcs t0 vals)[j]? = some [.int .i64 ((t0 + j : Nat) : Int), x.1] := by
  simp [fcs, hx]
def VB (h : AHeap) (vals : Vs) : Prop := ∀ x ∈ vals, Bytes h x.1 x.2
set_option maxHeartbeats 4000000 in
theorem tjoin_calls {v : Value} {t0 : Nat} {vals : Vs} (k : Own O h R) (hx : ∀ h, Own O h R → Sl 2 h v vals.length (fcs t0 vals).flatten ∧ VB h vals) (h1 : 1 ≤ t0) (h2 : t0 + vals.length ≤ 200) (hl : ∀ x ∈ vals, x.2.length ≤ 65535) :
    ACalls Tryd.prog 46 #[v] h fun r h' => ∃ x : Value, r = .tuple #[x, .int .i64 0] ∧ Own O h' R := by
  obtain ⟨va, vc, rfl⟩ := (hx h k).1.val
  refine ACalls.of_awp (args := [.slice va vals.length vc]) (n := 44) Tryd.func46 rfl rfl (by show 1 ≤ 44; omega) ?_
  (repeat' first
    | refine AWP.seq ?_
    | refine AWP.block ?_
    | (refine AWP.skip ?_; try dsimp only [thn, inBlk])
    | (refine AWP.exit ?_; try simp only [thn, inBlk, if_true, reduceIte, Nat.reduceEqDiff])
    | (refine AWP.ret ?_; try dsimp only [thn, inBlk])
    | (refine AWP.condT ?_ ?_; (focus (simp [go_sem]; done)))
    | (refine AWP.condF ?_ ?_; (focus (simp [go_sem]; done)))
    | (apply AWP.rE; (focus (simp [go_sem]; exact ⟨rfl, rfl⟩)); try dsimp only [thn, inBlk])
    | fail)
  refine AWP.loopR [2, 7, 8, 9] (fun m s h' => ∃ (j : Nat) (a : Option Addr) (cap : Nat) (bs : List UInt8), j ≤ vals.length ∧ m = vals.length - j ∧ bs.length ≤ j * 70000 ∧ s = ⟨44, [(2, .slice a bs.length cap), (7, .slice va vals.length vc), (8, .int .i64 vals.length), (9, .int .i64 j)]⟩ ∧ Own O h' (ob 5 (.slice a bs.length cap) bs :: R)) ?_ ?_
  · exact ⟨_, 0, none, 0, [], by omega, rfl, by simp, by simp [go_sem], k.nil 5 1⟩
  rintro m s hB ⟨j, a, cap, bs, hj, rfl, hbl, rfl, kB⟩
  by_cases hjm : j < vals.length
  rotate_left
  · have hjm' : ¬ (j : Int) < vals.length := by omega
    (repeat' first
      | refine AWP.seq ?_
      | refine AWP.block ?_
      | (refine AWP.skip ?_; try dsimp only [thn, inBlk])
      | (refine AWP.exit ?_; try simp only [thn, inBlk, if_true, reduceIte, Nat.reduceEqDiff])
      | (refine AWP.ret ?_; try dsimp only [thn, inBlk])
      | (refine AWP.condT ?_ ?_; (focus (simp [go_sem, hjm']; done)))
      | (refine AWP.condF ?_ ?_; (focus (simp [go_sem, hjm']; done)))
      | (apply AWP.rE; (focus (simp [go_sem, hjm']; exact ⟨rfl, rfl⟩)); try dsimp only [thn, inBlk])
      | fail)
    simp [bodyQ, thn, inBlk, resA, resV, go_sem]
    exact kB.tail
  have hjm' : (j : Int) < vals.length := by omega
  obtain ⟨hs, hv⟩ := hx hB kB.tail
  have hx1 : vals[j]? = some vals[j] := List.getElem?_eq_getElem hjm
  obtain ⟨i, off, c, e', sz', ti, ro, p0, q0, m0, t2, _⟩ := hs.record (P := Tryd.prog) (t := 86) Tryd.underlying86 tsz88 fcs_all fcs_len hjm (kd := .i64)
  have hf : (fcs t0 vals)[j]'(by rw [fcs_len]; exact hjm) = [.int .i64 ((t0 + j : Nat) : Int), vals[j].1] := by
    have := fcs_at (t0 := t0) hx1
    rw [List.getElem?_eq_getElem (by rw [fcs_len]; exact hjm)] at this
    exact Option.some.inj this
  rw [hf] at t2
  have hmem : vals[j] ∈ vals := List.getElem_mem hjm
  generalize vals[j] = x at *
  obtain ⟨xv, ys⟩ := x
  have hy2 : Bytes hB xv ys := hv _ hmem
  have hyl : ys.length ≤ 65535 := hl _ hmem
  have hby : ∀ hh, Own O hh R → Bytes hh xv ys := fun hh kk => (hx hh kk).2 _ hmem
  obtain ⟨ax, cx, rfl⟩ := hy2.val
  obtain ⟨t, ht⟩ : ∃ t : Nat, t = t0 + j := ⟨_, rfl⟩
  dsimp only at t2
  rw [← ht] at t2
  have g1 : ¬ (t : Int) < 1 := by omega
  have g2 : ¬ 255 < (t : Int) := by omega
  have g3 : ¬ 65535 < (ys.length : Int) := by omega
  have g1n : ¬ t < 1 := by omega
  have g2n : ¬ 255 < t := by omega
  have g3n : ¬ 65535 < ys.length := by omega
  have k6 := kB.push (.row [.int .i64 t, .slice ax ys.length cx] 88 2 true false)
  have c6 := k6.obj
  have w1 : IntKind.i64.wrap ((j : Int) + 1) = ((j + 1 : Nat) : Int) := by rw [wI64 (by omega) (by omega)]; omega
  obtain ⟨x1, hx1⟩ : ∃ x, x = UInt8.ofNat t := ⟨_, rfl⟩
  obtain ⟨x2, hx2⟩ : ∃ x, x = UInt8.ofNat (ys.length / 256) := ⟨_, rfl⟩
  obtain ⟨x3, hx3⟩ : ∃ x, x = UInt8.ofNat ys.length := ⟨_, rfl⟩
  have v1 : IntKind.u8.wrap (t : Int) = (x1.toNat : Int) := by rw [hx1]; simp [IntKind.wrap, IntKind.bits, IntKind.signed, UInt8.toNat_ofNat]
  obtain ⟨q, hq⟩ : ∃ q, q = ys.length / 256 := ⟨_, rfl⟩
  have v2 : (ys.length : Int).fdiv 256 = (q : Int) := by rw [hq, Int.fdiv_eq_ediv_of_nonneg _ (by omega)]; rfl
  have v2' : IntKind.i64.wrap (q : Int) = (q : Int) := wI64 (by omega) (by omega)
  have v2'' : IntKind.u8.wrap (q : Int) = (x2.toNat : Int) := by rw [hx2, ← hq]; simp [IntKind.wrap, IntKind.bits, IntKind.signed, UInt8.toNat_ofNat]
  have v3 : IntKind.u8.wrap (ys.length : Int) = (x3.toNat : Int) := by rw [hx3]; simp [IntKind.wrap, IntKind.bits, IntKind.signed, UInt8.toNat_ofNat]
  obtain ⟨na, nc, h7, e7, k7⟩ := Own.appN (P := Tryd.prog) (t := 27) (xt := 27) (m := 3) (xs := [.int .u8 x1.toNat, .int .u8 x2.toNat, .int .u8 x3.toNat]) (i := hB.next + 1) Tryd.underlying27 tsz5 tby5 tz5 nI27 (by omega) (by omega) (by rfl) k6.b1 rfl rfl rfl (by omega)
  have k7' : Own O h7 (ob 5 (.slice na (bs ++ [x1, x2, x3]).length nc) (bs ++ [x1, x2, x3]) :: cell hB.next (.row [.int .i64 t, .slice ax ys.length cx] 88 2 true false) :: R) := by
    have e1 : (bs ++ [x1, x2, x3]).map B = bs.map B ++ [.int .u8 x1.toNat, .int .u8 x2.toNat, .int .u8 x3.toNat] := by simp [B]
    have e2 : (bs ++ [x1, x2, x3]).length = bs.length + 3 := by simp
    unfold ob; rw [e1, e2]; exact k7
  have c7 := k7'.b1.obj
  obtain ⟨na2, nc2, h8, e8, k8⟩ := k7'.appB (P := Tryd.prog) (t := 27) (xt := 27) Tryd.underlying27 tsz5 tby5 tz5 nI27 (hby _ k7'.tail.tail).src (by simp; omega)
  have c6' := fun o => ((k6.push o).b1).obj
  (repeat' first
    | refine AWP.seq ?_
    | refine AWP.block ?_
    | (refine AWP.skip ?_; try dsimp only [thn, inBlk])
    | (refine AWP.exit ?_; try simp only [thn, inBlk, if_true, reduceIte, Nat.reduceEqDiff])
    | (refine AWP.ret ?_; try dsimp only [thn, inBlk])
    | (refine AWP.condT ?_ ?_; (focus (simp [go_sem, hjm', p0, q0, m0, t2, c6, g1, g2, g3, g1n, g2n, g3n]; done)))
    | (refine AWP.condF ?_ ?_; (focus (simp [go_sem, hjm', p0, q0, m0, t2, c6, g1, g2, g3, g1n, g2n, g3n]; done)))
    | (apply AWP.rE; (focus (simp [go_sem, hjm', p0, q0, m0, t2, c6, g1, g2, g3, g1n, g2n, g3n]; exact ⟨rfl, rfl⟩)); try dsimp only [thn, inBlk])
    | fail)
  have e9 : (bs ++ [x1, x2, x3]).length = bs.length + 3 := by simp
  rw [e9] at e8
  refine AWP.draw hmix [.n 0 [2], .n 1 [5], .n 2 [17], .n 3 [18], .n 4 [6], .n 5 [20], .n 6 [21], .n 7 [6], .n 8 [23], .n 9 [19, 22, 24], .n 11 [5], .n 12 [27], .w 10 [16, 25] [12], .w 13 [26, 28] [], .n 14 [29]] (by kernel_rfl) ?_
  refine awpD_writeR 12 (by rfl) (by rfl) (by simp [go_sem, c6, c6', v1, v2, v2', v2'', v3, e7, c7]; exact ⟨rfl, rfl, rfl⟩) (by rfl) (by rfl) (by simp [go_sem]) (by simp [go_sem, c6, c6', v1, v2, v2', v2'', v3, e7, c7]; exact ⟨rfl, rfl⟩) (by simp [still, go_sem, c6, c6', v1, v2, v2', v2'', v3, e7, c7]) ?_
  refine awpD_writeR 0 (by rfl) (by rfl) (by simp [go_sem, e8]; exact ⟨rfl, rfl, rfl⟩) (by rfl) (by rfl) (by simp [go_sem]) (by simp [go_sem, e8]; exact ⟨rfl, rfl⟩) (by simp [still, go_sem, e8]) ?_
  refine awpD_restR (by rfl) (by simp [go_sem]; exact ⟨rfl, rfl, rfl⟩) ?_; try dsimp only [thn, inBlk]
  (repeat' first
    | refine AWP.seq ?_
    | refine AWP.block ?_
    | (refine AWP.skip ?_; try dsimp only [thn, inBlk])
    | (refine AWP.exit ?_; try simp only [thn, inBlk, if_true, reduceIte, Nat.reduceEqDiff])
    | (refine AWP.ret ?_; try dsimp only [thn, inBlk])
    | (refine AWP.condT ?_ ?_; (focus (simp [go_sem, w1]; done)))
    | (refine AWP.condF ?_ ?_; (focus (simp [go_sem, w1]; done)))
    | (apply AWP.rE; (focus (simp [go_sem, w1]; exact ⟨rfl, rfl⟩)); try dsimp only [thn, inBlk])
    | fail)
  have e10 : (bs ++ [x1, x2, x3]).length + ys.length = (bs ++ [x1, x2, x3] ++ ys).length := by simp; omega
  have e11 : bs.length + 3 + ys.length = (bs ++ [x1, x2, x3] ++ ys).length := by simp; omega
  rw [e10] at k8
  rw [e11]
  have e12 : (bs ++ [x1, x2, x3] ++ ys).length ≤ (j + 1) * 70000 := by rw [← e11]; omega
  generalize bs ++ [x1, x2, x3] ++ ys = zs at *
  exact ⟨vals.length - (j + 1), by omega, j + 1, na2, nc2, zs, by omega, rfl, e12, by simp [go_sem], k8.d1⟩
set_option maxHeartbeats 4000000 in
theorem join_calls {v : Value} {t0 : Nat} {vals : Vs} (k : Own O h R) (hx : ∀ h, Own O h R → Sl 1 h v vals.length (vals.map (·.1)) ∧ VB h vals) (h1 : 1 ≤ t0) (h2 : t0 + vals.length ≤ 200) (hl : ∀ x ∈ vals, x.2.length ≤ 65535) :
    ACalls Tryd.prog 32 #[.int .i64 t0, v] h fun r h' => ∃ x : Value, r = .tuple #[x, .int .i64 0] ∧ Own O h' R := by
  obtain ⟨va, vc, rfl⟩ := (hx h k).1.val
  refine ACalls.of_awp (args := [.int .i64 t0, .slice va vals.length vc]) (n := 29) Tryd.func32 rfl rfl (by show 2 ≤ 29; omega) ?_
  (repeat' first
    | refine AWP.seq ?_
    | refine AWP.block ?_
    | (refine AWP.skip ?_; try dsimp only [thn, inBlk])
    | (refine AWP.exit ?_; try simp only [thn, inBlk, if_true, reduceIte, Nat.reduceEqDiff])
    | (refine AWP.ret ?_; try dsimp only [thn, inBlk])
    | (refine AWP.condT ?_ ?_; (focus (simp [go_sem]; done)))
    | (refine AWP.condF ?_ ?_; (focus (simp [go_sem]; done)))
    | (apply AWP.rE; (focus (simp [go_sem]; exact ⟨rfl, rfl⟩)); try dsimp only [thn, inBlk])
    | fail)
  refine AWP.loopR [0, 6, 9, 10, 11] (fun m s h' => ∃ (j : Nat) (a : Option Addr) (cap : Nat), j ≤ vals.length ∧ m = vals.length - j ∧ s = ⟨29, [(0, .int .i64 t0), (6, .slice a j cap), (9, .slice va vals.length vc), (10, .int .i64 vals.length), (11, .int .i64 j)]⟩ ∧ Own O h' (os 88 2 (.slice a j cap) j ((fcs t0 vals).take j).flatten :: R)) ?_ ?_
  · exact ⟨_, 0, none, 0, by omega, rfl, by simp [go_sem], k.nil 88 2⟩
  rintro m s hB ⟨j, a, cap, hj, rfl, rfl, kB⟩
  by_cases hjm : j < vals.length
  rotate_left
  · have hjm' : ¬ (j : Int) < vals.length := by omega
    obtain rfl : j = vals.length := by omega
    rw [List.take_of_length_le (by rw [fcs_len]; omega)] at kB
    (repeat' first
      | refine AWP.seq ?_
      | refine AWP.block ?_
      | (refine AWP.skip ?_; try dsimp only [thn, inBlk])
      | (refine AWP.exit ?_; try simp only [thn, inBlk, if_true, reduceIte, Nat.reduceEqDiff])
      | (refine AWP.ret ?_; try dsimp only [thn, inBlk])
      | (refine AWP.condT ?_ ?_; (focus (simp [go_sem, hjm']; done)))
      | (refine AWP.condF ?_ ?_; (focus (simp [go_sem, hjm']; done)))
      | (apply AWP.rE; (focus (simp [go_sem, hjm']; exact ⟨rfl, rfl⟩)); try dsimp only [thn, inBlk])
      | fail)
    refine AWP.callE (by simp [go_sem]; exact ⟨rfl, rfl, rfl, rfl, rfl⟩) (by kernel_rfl) ?_
    refine (tjoin_calls (vals := vals) (t0 := t0) kB (fun hh kk => ⟨kk.os_sl, (hx hh kk.tail).2⟩) h1 h2 hl).mono ?_
    rintro r h2 ⟨x, rfl, k2⟩
    refine awpL_restE (by simp [go_sem]; exact ⟨rfl, rfl⟩) ?_; try dsimp only [thn, inBlk]
    (repeat' first
      | refine AWP.seq ?_
      | refine AWP.block ?_
      | (refine AWP.skip ?_; try dsimp only [thn, inBlk])
      | (refine AWP.exit ?_; try simp only [thn, inBlk, if_true, reduceIte, Nat.reduceEqDiff])
      | (refine AWP.ret ?_; try dsimp only [thn, inBlk])
      | (refine AWP.condT ?_ ?_; (focus (simp [go_sem]; done)))
      | (refine AWP.condF ?_ ?_; (focus (simp [go_sem]; done)))
      | (apply AWP.rE; (focus (simp [go_sem]; exact ⟨rfl, rfl⟩)); try dsimp only [thn, inBlk])
      | fail)
    simp [bodyQ, thn, inBlk, resA, resV, go_sem]
    exact k2.tail
  have hjm' : (j : Int) < vals.length := by omega
  obtain ⟨hs, hv⟩ := hx hB kB.tail
  have hx1 : vals[j]? = some vals[j] := List.getElem?_eq_getElem hjm
  have hx2 : (vals.map (·.1))[j]? = some vals[j].1 := by rw [List.getElem?_map, hx1]; rfl
  obtain ⟨b1, o1, c1, _, _, _, _, p1, q1, r1⟩ := hs.at1 (P := Tryd.prog) (t := 85) Tryd.underlying85 tsz27 hjm hx2 (kd := .i64)
  have w1 : IntKind.i64.wrap ((j : Int) + 1) = ((j + 1 : Nat) : Int) := by rw [wI64 (by omega) (by omega)]; omega
  have w2 : IntKind.i64.wrap ((t0 : Int) + j) = ((t0 + j : Nat) : Int) := by rw [wI64 (by omega) (by omega)]; omega
  have htk : (fcs t0 vals).take (j + 1) = (fcs t0 vals).take j ++ [[.int .i64 ((t0 + j : Nat) : Int), vals[j].1]] := by
    rw [List.take_add_one, fcs_at hx1]; rfl
  have hv1 := hv _ (List.getElem_mem hjm)
  generalize vals[j] = x at *
  obtain ⟨xv, ys⟩ := x
  dsimp only at *
  obtain ⟨ax, cx, rfl⟩ := hv1.val
  generalize ys.length = yl at *
  generalize t0 + j = t at *
  obtain ⟨na, nc, h7, e7, k7⟩ := Own.appN (P := Tryd.prog) (t := 86) (xt := 86) (m := 1) (xs := [.int .i64 t, .slice ax yl cx]) (i := hB.next) Tryd.underlying86 tsz88 tby88 tz88 nI86 (by omega) (by omega) (by rfl) kB rfl rfl rfl (by omega)
  (repeat' first
    | refine AWP.seq ?_
    | refine AWP.block ?_
    | (refine AWP.skip ?_; try dsimp only [thn, inBlk])
    | (refine AWP.exit ?_; try simp only [thn, inBlk, if_true, reduceIte, Nat.reduceEqDiff])
    | (refine AWP.ret ?_; try dsimp only [thn, inBlk])
    | (refine AWP.condT ?_ ?_; (focus (simp [go_sem, hjm', p1, q1, r1, w1, w2, e7]; done)))
    | (refine AWP.condF ?_ ?_; (focus (simp [go_sem, hjm', p1, q1, r1, w1, w2, e7]; done)))
    | (apply AWP.rE; (focus (simp [go_sem, hjm', p1, q1, r1, w1, w2, e7]; exact ⟨rfl, rfl⟩)); try dsimp only [thn, inBlk])
    | fail)
  refine ⟨vals.length - (j + 1), by omega, j + 1, na, nc, by omega, rfl, by simp [go_sem], ?_⟩
  rw [htk, List.flatten_append]
  simpa using k7
end
end L11
