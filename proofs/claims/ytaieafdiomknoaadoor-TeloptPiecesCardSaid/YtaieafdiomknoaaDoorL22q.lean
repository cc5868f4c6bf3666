import Derived.Test.YtaieafdiomknoaaDoorL22p
open Go Ab Go.Proofs
namespace L22
set_option autoImplicit false
set_option linter.unusedSimpArgs false
set_option linter.unusedVariables false

/-- What a part says of authentication: the kind, whether it accepts, the body, the error. -/
def authT (k o : Int) (bs : List UInt8) : Int × Bool × List UInt8 × Int :=
  if k = 3 ∧ o = 37 then
    match bs with
    | [1, 2, 2] => (1, false, [], 0)
    | 0 :: 2 :: 2 :: 0 :: r => (0, false, r, 0)
    | 2 :: 2 :: 2 :: 1 :: r => (2, false, r, 0)
    | 2 :: 2 :: 2 :: 2 :: r => (2, true, r, 0)
    | _ => (0, false, [], 21)
  else (0, false, [], 21)
structure Nm (j : Nat) (bs : List UInt8) : Prop where
  n0 : 0 < j → bs ≠ [1, 2, 2]
  n1 : 1 < j → ∀ t, bs ≠ [0, 2, 2, 0] ++ t
  n2 : 2 < j → ∀ t, bs ≠ [2, 2, 2, 1] ++ t
  n3 : 3 < j → ∀ t, bs ≠ [2, 2, 2, 2] ++ t
theorem authT_none {bs : List UInt8} (h : Nm 4 bs) : authT 3 37 bs = (0, false, [], 21) := by
  unfold authT
  rw [if_pos ⟨rfl, rfl⟩]
  split
  · exact absurd rfl (h.n0 (by omega))
  · exact absurd rfl (h.n1 (by omega) _)
  · exact absurd rfl (h.n2 (by omega) _)
  · exact absurd rfl (h.n3 (by omega) _)
  · rfl

abbrev heads (a0 a1 a2 a3 : Option Addr) (n0 n1 n2 n3 : Nat) : Value := .agg #[.int .i64 3, .int .i64 0, .int .i64 37, .slice a0 3 n0, .int .i64 3, .int .i64 0, .int .i64 37, .slice a1 4 n1, .int .i64 3, .int .i64 0, .int .i64 37, .slice a2 4 n2, .int .i64 3, .int .i64 0, .int .i64 37, .slice a3 4 n3]

theorem head0 {a0 a1 a2 a3 : Option Addr} {n0 n1 n2 n3 : Nat} : indexP Tryd.prog 65 (heads a0 a1 a2 a3 n0 n1 n2 n3) (.int .i64 0) = some (tel 3 0 37 (.slice a0 3 n0)) := by simp [indexP, heads, Tryd.underlying65, agg24, tsz24, partA]
theorem head1 {a0 a1 a2 a3 : Option Addr} {n0 n1 n2 n3 : Nat} : indexP Tryd.prog 65 (heads a0 a1 a2 a3 n0 n1 n2 n3) (.int .i64 1) = some (tel 3 0 37 (.slice a1 4 n1)) := by simp [indexP, heads, Tryd.underlying65, agg24, tsz24, partA]
theorem head2 {a0 a1 a2 a3 : Option Addr} {n0 n1 n2 n3 : Nat} : indexP Tryd.prog 65 (heads a0 a1 a2 a3 n0 n1 n2 n3) (.int .i64 2) = some (tel 3 0 37 (.slice a2 4 n2)) := by simp [indexP, heads, Tryd.underlying65, agg24, tsz24, partA]
theorem head3 {a0 a1 a2 a3 : Option Addr} {n0 n1 n2 n3 : Nat} : indexP Tryd.prog 65 (heads a0 a1 a2 a3 n0 n1 n2 n3) (.int .i64 3) = some (tel 3 0 37 (.slice a3 4 n3)) := by simp [indexP, heads, Tryd.underlying65, agg24, tsz24, partA]
set_option maxHeartbeats 8000000 in
theorem tauth_calls {O : Old} {h : AHeap} {R : List Chunk} {d : Value} {bs : List UInt8} {kd v o : Int} (k : Own O h R) (hx : ∀ h, Own O h R → Bytes h d bs) (hm : bs.length ≤ 1000000) :
    ACalls Tryd.prog 17 #[tel kd v o d] h fun r h' => ∃ a cap, r = .tuple #[.int .i64 (authT kd o bs).1, .bool (authT kd o bs).2.1, .slice a (authT kd o bs).2.2.1.length cap, .int .i64 (authT kd o bs).2.2.2] ∧ Own O h' (ob 5 (.slice a (authT kd o bs).2.2.1.length cap) (authT kd o bs).2.2.1 :: R) := by
  obtain ⟨da, dc, rfl⟩ := (hx h k).val
  refine ACalls.of_awp (args := [tel kd v o (.slice da bs.length dc)]) (n := 56) Tryd.func17 rfl rfl (by show 1 ≤ 56; omega) ?_
  have k1 := k.push (trow kd v o (.slice da bs.length dc))
  have c1 := k1.obj
  refine AWP.seq ?_
  (apply AWP.rE; (focus (simp [go_sem]; exact ⟨rfl, rfl⟩)); try dsimp only [thn, inBlk])
  generalize h.push (trow kd v o (.slice da bs.length dc)) = h1 at k1 c1 ⊢
  generalize h.next = tp at k1 c1 ⊢
  by_cases h3 : kd = 3
  rotate_left
  · have h3' : (kd != 3) = true := by simpa using h3
    have e : authT kd o bs = (0, false, [], 21) := by simp [authT, h3]
    (repeat' first
      | refine AWP.seq ?_
      | refine AWP.block ?_
      | (refine AWP.skip ?_; try dsimp only [thn, inBlk])
      | (refine AWP.exit ?_; try simp only [thn, inBlk, if_true, reduceIte, Nat.reduceEqDiff])
      | (refine AWP.ret ?_; try dsimp only [thn, inBlk])
      | (refine AWP.condT ?_ ?_; (focus (simp [go_sem, c1, h3']; done)))
      | (refine AWP.condF ?_ ?_; (focus (simp [go_sem, c1, h3']; done)))
      | (apply AWP.rE; (focus (simp [go_sem, c1, h3']; exact ⟨rfl, rfl⟩)); try dsimp only [thn, inBlk])
      | fail)
    simp [bodyQ, thn, inBlk, resA, resV, go_sem, e]
    exact ⟨none, 0, ⟨rfl, rfl⟩, k1.tail.nil 5 1⟩
  subst h3
  by_cases h37 : o = 37
  rotate_left
  · have h37' : (o != 37) = true := by simpa using h37
    have e : authT 3 o bs = (0, false, [], 21) := by simp [authT, h37]
    (repeat' first
      | refine AWP.seq ?_
      | refine AWP.block ?_
      | (refine AWP.skip ?_; try dsimp only [thn, inBlk])
      | (refine AWP.exit ?_; try simp only [thn, inBlk, if_true, reduceIte, Nat.reduceEqDiff])
      | (refine AWP.ret ?_; try dsimp only [thn, inBlk])
      | (refine AWP.condT ?_ ?_; (focus (simp [go_sem, c1, h37']; done)))
      | (refine AWP.condF ?_ ?_; (focus (simp [go_sem, c1, h37']; done)))
      | (apply AWP.rE; (focus (simp [go_sem, c1, h37']; exact ⟨rfl, rfl⟩)); try dsimp only [thn, inBlk])
      | fail)
    simp [bodyQ, thn, inBlk, resA, resV, go_sem, e]
    exact ⟨none, 0, ⟨rfl, rfl⟩, k1.tail.nil 5 1⟩
  subst h37
  (repeat' first
    | refine AWP.seq ?_
    | refine AWP.block ?_
    | (refine AWP.skip ?_; try dsimp only [thn, inBlk])
    | (refine AWP.exit ?_; try simp only [thn, inBlk, if_true, reduceIte, Nat.reduceEqDiff])
    | (refine AWP.ret ?_; try dsimp only [thn, inBlk])
    | (refine AWP.condT ?_ ?_; (focus (simp [go_sem, c1]; done)))
    | (refine AWP.condF ?_ ?_; (focus (simp [go_sem, c1]; done)))
    | (apply AWP.rE; (focus (simp [go_sem, c1]; exact ⟨rfl, rfl⟩)); try dsimp only [thn, inBlk])
    | fail)
  refine AWP.callE (by simp [go_sem]; exact ⟨rfl, rfl, rfl, rfl, rfl⟩) (by kernel_rfl) ?_
  refine (send_calls k1).mono ?_
  rintro r h2 ⟨a0, n0, rfl, k2⟩
  refine awpL_toCall (by simp [go_sem]; exact ⟨rfl, rfl, rfl, rfl, rfl⟩) (by kernel_rfl) ?_
  refine (is_calls k2 (fun hh kk => Bytes.nil hh) (by simp)).mono ?_
  rintro r h3 ⟨a1, n1, rfl, k3⟩
  rw [List.append_nil, show 4 + ([] : List UInt8).length = 4 from rfl] at *
  refine awpL_toCall (by simp [go_sem]; exact ⟨rfl, rfl, rfl, rfl, rfl⟩) (by kernel_rfl) ?_
  refine (reply_calls (b := false) k3 (fun hh kk => Bytes.nil hh) (by simp)).mono ?_
  rintro r h4 ⟨a2, n2, rfl, k4⟩
  rw [List.append_nil, show 4 + ([] : List UInt8).length = 4 from rfl] at *
  refine awpL_toCall (by simp [go_sem]; exact ⟨rfl, rfl, rfl, rfl, rfl⟩) (by kernel_rfl) ?_
  refine (reply_calls (b := true) k4 (fun hh kk => Bytes.nil hh) (by simp)).mono ?_
  rintro r h5 ⟨a3, n3, rfl, k5⟩
  rw [List.append_nil, show 4 + ([] : List UInt8).length = 4 from rfl] at *
  refine awpL_restE (by simp [go_sem]; exact ⟨rfl, rfl⟩) ?_; try dsimp only [thn, inBlk]
  have k5 : Own O h5 (ob 5 (.slice a3 4 n3) [2, 2, 2, 2] :: ob 5 (.slice a2 4 n2) [2, 2, 2, 1] :: ob 5 (.slice a1 4 n1) [0, 2, 2, 0] :: ob 5 (.slice a0 3 n0) [1, 2, 2] :: cell tp (trow 3 v 37 (.slice da bs.length dc)) :: R) := k5
  (repeat' first
    | refine AWP.seq ?_
    | refine AWP.block ?_
    | (refine AWP.skip ?_; try dsimp only [thn, inBlk])
    | (refine AWP.exit ?_; try simp only [thn, inBlk, if_true, reduceIte, Nat.reduceEqDiff])
    | (refine AWP.ret ?_; try dsimp only [thn, inBlk])
    | (refine AWP.condT ?_ ?_; (focus (simp [go_sem]; done)))
    | (refine AWP.condF ?_ ?_; (focus (simp [go_sem]; done)))
    | (apply AWP.rE; (focus (simp [go_sem]; exact ⟨rfl, rfl⟩)); try dsimp only [thn, inBlk])
    | fail)
  refine AWP.loopR [1, 22, 23] (fun m s h' => ∃ j, j ≤ 4 ∧ m = 4 - j ∧ s = ⟨56, [(1, ptr tp), (22, heads a0 a1 a2 a3 n0 n1 n2 n3), (23, .int .i64 (j : Nat))]⟩ ∧ Nm j bs ∧
    Own O h' (ob 5 (.slice a3 4 n3) [2, 2, 2, 2] :: ob 5 (.slice a2 4 n2) [2, 2, 2, 1] :: ob 5 (.slice a1 4 n1) [0, 2, 2, 0] :: ob 5 (.slice a0 3 n0) [1, 2, 2] :: cell tp (trow 3 v 37 (.slice da bs.length dc)) :: R)) ?_ ?_
  · exact ⟨_, 0, by omega, rfl, by simp [go_sem], ⟨by omega, by omega, by omega, by omega⟩, k5⟩
  rintro m s h6 ⟨j, hj, rfl, rfl, hN, k6⟩
  have c6 := k6.b4.obj
  have hlt6 := k6.b4.atc.2.2
  have cP : ∀ r, (h6.push r).obj tp = some (trow 3 v 37 (.slice da bs.length dc)) := fun r => (push_old _ _ _ hlt6).trans c6
  obtain rfl | rfl | rfl | rfl | rfl : j = 0 ∨ j = 1 ∨ j = 2 ∨ j = 3 ∨ j = 4 := by omega
  · have w8 : IntKind.i64.wrap 1 = 1 := by decide
    have wb : IntKind.i64.wrap 1 = 1 := by decide
    have ih := head0 (a0 := a0) (a1 := a1) (a2 := a2) (a3 := a3) (n0 := n0) (n1 := n1) (n2 := n2) (n3 := n3)
    (repeat' first
      | refine AWP.seq ?_
      | refine AWP.block ?_
      | (refine AWP.skip ?_; try dsimp only [thn, inBlk])
      | (refine AWP.exit ?_; try simp only [thn, inBlk, if_true, reduceIte, Nat.reduceEqDiff])
      | (refine AWP.ret ?_; try dsimp only [thn, inBlk])
      | (refine AWP.condT ?_ ?_; (focus (simp [go_sem, c6, cP, ih]; done)))
      | (refine AWP.condF ?_ ?_; (focus (simp [go_sem, c6, cP, ih]; done)))
      | (apply AWP.rE; (focus (simp [go_sem, c6, cP, ih]; exact ⟨rfl, rfl⟩)); try dsimp only [thn, inBlk])
      | fail)
    have k7 := k6.push (trow 3 0 37 (.slice a0 3 n0))
    have d7 := k7.obj
    refine AWP.callE (by simp [go_sem, cP, d7]; exact ⟨rfl, rfl, rfl, rfl, rfl⟩) (by kernel_rfl) ?_
    refine (cutprefix_calls (hx _ k7.tail.tail.tail.tail.tail.tail) k7.b4.ob_bytes).mono ?_
    rintro r h7 ⟨rfl, ⟨t, ht, ya, yc, rfl, hyt⟩ | ⟨hn, rfl⟩⟩
    · by_cases htn : t = []
      · subst htn
        have e : authT 3 37 bs = (1, false, [], 0) := by rw [ht]; rfl
        refine awpL_restE (by simp [go_sem]; exact ⟨rfl, rfl⟩) ?_; try dsimp only [thn, inBlk]
        (repeat' first
          | refine AWP.seq ?_
          | refine AWP.block ?_
          | (refine AWP.skip ?_; try dsimp only [thn, inBlk])
          | (refine AWP.exit ?_; try simp only [thn, inBlk, if_true, reduceIte, Nat.reduceEqDiff])
          | (refine AWP.ret ?_; try dsimp only [thn, inBlk])
          | (refine AWP.condT ?_ ?_; (focus (simp [go_sem, d7]; done)))
          | (refine AWP.condF ?_ ?_; (focus (simp [go_sem, d7]; done)))
          | (apply AWP.rE; (focus (simp [go_sem, d7]; exact ⟨rfl, rfl⟩)); try dsimp only [thn, inBlk])
          | fail)
        obtain ⟨i1, o1, r1, e1, z1, ti1, ro1, p1, q1, g1⟩ := k7.b4.ob_bytes.at (P := Tryd.prog) (t := 22) Tryd.underlying22 tsz5 (j := 0) (by simp) (kd := .i64)
        have p1 : indexAddrP Tryd.prog 22 (.slice a0 3 n0) (.int .i64 0) = some (.pointer (some ⟨i1, o1, none⟩)) := p1
        have g1 : r1[o1]? = some (.int .u8 1) := g1
        refine AWP.draw hmix [.n 0 [7], .n 1 [46], .n 2 [47], .n 3 [48], .n 4 [49], .n 5 [6], .n 6 [51], .n 7 [8], .w 8 [53] [1, 3, 4], .n 9 [50], .n 10 [52], .n 11 [54], .n 12 []] (by kernel_rfl) ?_
        refine awpD_callR 8 (by rfl) (by rfl) (by simp [go_sem, d7, p1, q1, g1, wb]; exact ⟨rfl, rfl, rfl⟩) (by rfl) (by rfl) (by simp [go_sem]) (by simp [go_sem, d7, p1, q1, g1, wb]; exact ⟨rfl, rfl⟩) (by kernel_rfl) ?_
        refine (clone_calls k7 (fun hh kk => hyt hh (hx hh kk.tail.tail.tail.tail.tail.tail)) (by simp)).mono ?_
        rintro r h8 ⟨a9, n9, rfl, k8⟩
        have d8 := k8.b1.obj
        obtain ⟨i2, o2, r2, e2, z2, ti2, ro2, p2, q2, g2⟩ := k8.b5.ob_bytes.at (P := Tryd.prog) (t := 22) Tryd.underlying22 tsz5 (j := 0) (by simp) (kd := .i64)
        cases p1.symm.trans p2
        have g2 : r2[o1]? = some (.int .u8 1) := g2
        refine ⟨by simp [still, go_sem, d8, p1, q2, g2, wb], ?_⟩
        refine awpD_restR (by rfl) (by simp [go_sem]; exact ⟨rfl, rfl, rfl⟩) ?_; try dsimp only [thn, inBlk]
        (repeat' first
          | refine AWP.seq ?_
          | refine AWP.block ?_
          | (refine AWP.skip ?_; try dsimp only [thn, inBlk])
          | (refine AWP.exit ?_; try simp only [thn, inBlk, if_true, reduceIte, Nat.reduceEqDiff])
          | (refine AWP.ret ?_; try dsimp only [thn, inBlk])
          | (refine AWP.condT ?_ ?_; (focus (simp [go_sem]; done)))
          | (refine AWP.condF ?_ ?_; (focus (simp [go_sem]; done)))
          | (apply AWP.rE; (focus (simp [go_sem]; exact ⟨rfl, rfl⟩)); try dsimp only [thn, inBlk])
          | fail)
        simp [bodyQ, thn, inBlk, resA, resV, go_sem, e]
        exact ⟨_, _, ⟨rfl, rfl⟩, k8.d1.d1.d1.d1.d1.d1⟩
      · have hpos : 0 < t.length := List.length_pos_iff.2 htn
        refine awpL_restE (by simp [go_sem]; exact ⟨rfl, rfl⟩) ?_; try dsimp only [thn, inBlk]
        (repeat' first
          | refine AWP.seq ?_
          | refine AWP.block ?_
          | (refine AWP.skip ?_; try dsimp only [thn, inBlk])
          | (refine AWP.exit ?_; try simp only [thn, inBlk, if_true, reduceIte, Nat.reduceEqDiff])
          | (refine AWP.ret ?_; try dsimp only [thn, inBlk])
          | (refine AWP.condT ?_ ?_; (focus (simp [go_sem, w8, hpos]; done)))
          | (refine AWP.condF ?_ ?_; (focus (simp [go_sem, w8, hpos]; done)))
          | (apply AWP.rE; (focus (simp [go_sem, w8, hpos]; exact ⟨rfl, rfl⟩)); try dsimp only [thn, inBlk])
          | fail)
        exact ⟨4 - 1, by omega, 1, by omega, rfl, by simp [go_sem], ⟨fun _ e => htn (by rw [ht] at e; simpa using e), by omega, by omega, by omega⟩, k7.tail⟩
    · refine awpL_restE (by simp [go_sem]; exact ⟨rfl, rfl⟩) ?_; try dsimp only [thn, inBlk]
      (repeat' first
        | refine AWP.seq ?_
        | refine AWP.block ?_
        | (refine AWP.skip ?_; try dsimp only [thn, inBlk])
        | (refine AWP.exit ?_; try simp only [thn, inBlk, if_true, reduceIte, Nat.reduceEqDiff])
        | (refine AWP.ret ?_; try dsimp only [thn, inBlk])
        | (refine AWP.condT ?_ ?_; (focus (simp [go_sem, w8]; done)))
        | (refine AWP.condF ?_ ?_; (focus (simp [go_sem, w8]; done)))
        | (apply AWP.rE; (focus (simp [go_sem, w8]; exact ⟨rfl, rfl⟩)); try dsimp only [thn, inBlk])
        | fail)
      exact ⟨4 - 1, by omega, 1, by omega, rfl, by simp [go_sem], ⟨fun _ e => hn [] (by simpa using e), by omega, by omega, by omega⟩, k7.tail⟩
  · have w8 : IntKind.i64.wrap 2 = 2 := by decide
    have wb : IntKind.i64.wrap 0 = 0 := by decide
    have ih := head1 (a0 := a0) (a1 := a1) (a2 := a2) (a3 := a3) (n0 := n0) (n1 := n1) (n2 := n2) (n3 := n3)
    (repeat' first
      | refine AWP.seq ?_
      | refine AWP.block ?_
      | (refine AWP.skip ?_; try dsimp only [thn, inBlk])
      | (refine AWP.exit ?_; try simp only [thn, inBlk, if_true, reduceIte, Nat.reduceEqDiff])
      | (refine AWP.ret ?_; try dsimp only [thn, inBlk])
      | (refine AWP.condT ?_ ?_; (focus (simp [go_sem, c6, cP, ih]; done)))
      | (refine AWP.condF ?_ ?_; (focus (simp [go_sem, c6, cP, ih]; done)))
      | (apply AWP.rE; (focus (simp [go_sem, c6, cP, ih]; exact ⟨rfl, rfl⟩)); try dsimp only [thn, inBlk])
      | fail)
    have k7 := k6.push (trow 3 0 37 (.slice a1 4 n1))
    have d7 := k7.obj
    refine AWP.callE (by simp [go_sem, cP, d7]; exact ⟨rfl, rfl, rfl, rfl, rfl⟩) (by kernel_rfl) ?_
    refine (cutprefix_calls (hx _ k7.tail.tail.tail.tail.tail.tail) k7.b3.ob_bytes).mono ?_
    rintro r h7 ⟨rfl, ⟨t, ht, ya, yc, rfl, hyt⟩ | ⟨hn, rfl⟩⟩
    · have e : authT 3 37 bs = (0, false, t, 0) := by rw [ht]; rfl
      refine awpL_restE (by simp [go_sem]; exact ⟨rfl, rfl⟩) ?_; try dsimp only [thn, inBlk]
      (repeat' first
        | refine AWP.seq ?_
        | refine AWP.block ?_
        | (refine AWP.skip ?_; try dsimp only [thn, inBlk])
        | (refine AWP.exit ?_; try simp only [thn, inBlk, if_true, reduceIte, Nat.reduceEqDiff])
        | (refine AWP.ret ?_; try dsimp only [thn, inBlk])
        | (refine AWP.condT ?_ ?_; (focus (simp [go_sem, d7]; done)))
        | (refine AWP.condF ?_ ?_; (focus (simp [go_sem, d7]; done)))
        | (apply AWP.rE; (focus (simp [go_sem, d7]; exact ⟨rfl, rfl⟩)); try dsimp only [thn, inBlk])
        | fail)
      obtain ⟨i1, o1, r1, e1, z1, ti1, ro1, p1, q1, g1⟩ := k7.b3.ob_bytes.at (P := Tryd.prog) (t := 22) Tryd.underlying22 tsz5 (j := 0) (by simp) (kd := .i64)
      have p1 : indexAddrP Tryd.prog 22 (.slice a1 4 n1) (.int .i64 0) = some (.pointer (some ⟨i1, o1, none⟩)) := p1
      have g1 : r1[o1]? = some (.int .u8 0) := g1
      refine AWP.draw hmix [.n 0 [7], .n 1 [46], .n 2 [47], .n 3 [48], .n 4 [49], .n 5 [6], .n 6 [51], .n 7 [8], .w 8 [53] [1, 3, 4], .n 9 [50], .n 10 [52], .n 11 [54], .n 12 []] (by kernel_rfl) ?_
      refine awpD_callR 8 (by rfl) (by rfl) (by simp [go_sem, d7, p1, q1, g1, wb]; exact ⟨rfl, rfl, rfl⟩) (by rfl) (by rfl) (by simp [go_sem]) (by simp [go_sem, d7, p1, q1, g1, wb]; exact ⟨rfl, rfl⟩) (by kernel_rfl) ?_
      refine (clone_calls k7 (fun hh kk => hyt hh (hx hh kk.tail.tail.tail.tail.tail.tail)) (by rw [ht] at hm; simp at hm ⊢; omega)).mono ?_
      rintro r h8 ⟨a9, n9, rfl, k8⟩
      have d8 := k8.b1.obj
      obtain ⟨i2, o2, r2, e2, z2, ti2, ro2, p2, q2, g2⟩ := k8.b4.ob_bytes.at (P := Tryd.prog) (t := 22) Tryd.underlying22 tsz5 (j := 0) (by simp) (kd := .i64)
      cases p1.symm.trans p2
      have g2 : r2[o1]? = some (.int .u8 0) := g2
      refine ⟨by simp [still, go_sem, d8, p1, q2, g2, wb], ?_⟩
      refine awpD_restR (by rfl) (by simp [go_sem]; exact ⟨rfl, rfl, rfl⟩) ?_; try dsimp only [thn, inBlk]
      (repeat' first
        | refine AWP.seq ?_
        | refine AWP.block ?_
        | (refine AWP.skip ?_; try dsimp only [thn, inBlk])
        | (refine AWP.exit ?_; try simp only [thn, inBlk, if_true, reduceIte, Nat.reduceEqDiff])
        | (refine AWP.ret ?_; try dsimp only [thn, inBlk])
        | (refine AWP.condT ?_ ?_; (focus (simp [go_sem]; done)))
        | (refine AWP.condF ?_ ?_; (focus (simp [go_sem]; done)))
        | (apply AWP.rE; (focus (simp [go_sem]; exact ⟨rfl, rfl⟩)); try dsimp only [thn, inBlk])
        | fail)
      simp [bodyQ, thn, inBlk, resA, resV, go_sem, e]
      exact ⟨_, _, ⟨rfl, rfl⟩, k8.d1.d1.d1.d1.d1.d1⟩
    · refine awpL_restE (by simp [go_sem]; exact ⟨rfl, rfl⟩) ?_; try dsimp only [thn, inBlk]
      (repeat' first
        | refine AWP.seq ?_
        | refine AWP.block ?_
        | (refine AWP.skip ?_; try dsimp only [thn, inBlk])
        | (refine AWP.exit ?_; try simp only [thn, inBlk, if_true, reduceIte, Nat.reduceEqDiff])
        | (refine AWP.ret ?_; try dsimp only [thn, inBlk])
        | (refine AWP.condT ?_ ?_; (focus (simp [go_sem, w8]; done)))
        | (refine AWP.condF ?_ ?_; (focus (simp [go_sem, w8]; done)))
        | (apply AWP.rE; (focus (simp [go_sem, w8]; exact ⟨rfl, rfl⟩)); try dsimp only [thn, inBlk])
        | fail)
      exact ⟨4 - 2, by omega, 2, by omega, rfl, by simp [go_sem], ⟨fun _ => hN.n0 (by omega), fun _ => hn, by omega, by omega⟩, k7.tail⟩
  · have w8 : IntKind.i64.wrap 3 = 3 := by decide
    have wb : IntKind.i64.wrap 2 = 2 := by decide
    have ih := head2 (a0 := a0) (a1 := a1) (a2 := a2) (a3 := a3) (n0 := n0) (n1 := n1) (n2 := n2) (n3 := n3)
    (repeat' first
      | refine AWP.seq ?_
      | refine AWP.block ?_
      | (refine AWP.skip ?_; try dsimp only [thn, inBlk])
      | (refine AWP.exit ?_; try simp only [thn, inBlk, if_true, reduceIte, Nat.reduceEqDiff])
      | (refine AWP.ret ?_; try dsimp only [thn, inBlk])
      | (refine AWP.condT ?_ ?_; (focus (simp [go_sem, c6, cP, ih]; done)))
      | (refine AWP.condF ?_ ?_; (focus (simp [go_sem, c6, cP, ih]; done)))
      | (apply AWP.rE; (focus (simp [go_sem, c6, cP, ih]; exact ⟨rfl, rfl⟩)); try dsimp only [thn, inBlk])
      | fail)
    have k7 := k6.push (trow 3 0 37 (.slice a2 4 n2))
    have d7 := k7.obj
    refine AWP.callE (by simp [go_sem, cP, d7]; exact ⟨rfl, rfl, rfl, rfl, rfl⟩) (by kernel_rfl) ?_
    refine (cutprefix_calls (hx _ k7.tail.tail.tail.tail.tail.tail) k7.b2.ob_bytes).mono ?_
    rintro r h7 ⟨rfl, ⟨t, ht, ya, yc, rfl, hyt⟩ | ⟨hn, rfl⟩⟩
    · have e : authT 3 37 bs = (2, false, t, 0) := by rw [ht]; rfl
      refine awpL_restE (by simp [go_sem]; exact ⟨rfl, rfl⟩) ?_; try dsimp only [thn, inBlk]
      (repeat' first
        | refine AWP.seq ?_
        | refine AWP.block ?_
        | (refine AWP.skip ?_; try dsimp only [thn, inBlk])
        | (refine AWP.exit ?_; try simp only [thn, inBlk, if_true, reduceIte, Nat.reduceEqDiff])
        | (refine AWP.ret ?_; try dsimp only [thn, inBlk])
        | (refine AWP.condT ?_ ?_; (focus (simp [go_sem, d7]; done)))
        | (refine AWP.condF ?_ ?_; (focus (simp [go_sem, d7]; done)))
        | (apply AWP.rE; (focus (simp [go_sem, d7]; exact ⟨rfl, rfl⟩)); try dsimp only [thn, inBlk])
        | fail)
      obtain ⟨i1, o1, r1, e1, z1, ti1, ro1, p1, q1, g1⟩ := k7.b2.ob_bytes.at (P := Tryd.prog) (t := 22) Tryd.underlying22 tsz5 (j := 0) (by simp) (kd := .i64)
      have p1 : indexAddrP Tryd.prog 22 (.slice a2 4 n2) (.int .i64 0) = some (.pointer (some ⟨i1, o1, none⟩)) := p1
      have g1 : r1[o1]? = some (.int .u8 2) := g1
      refine AWP.draw hmix [.n 0 [7], .n 1 [46], .n 2 [47], .n 3 [48], .n 4 [49], .n 5 [6], .n 6 [51], .n 7 [8], .w 8 [53] [1, 3, 4], .n 9 [50], .n 10 [52], .n 11 [54], .n 12 []] (by kernel_rfl) ?_
      refine awpD_callR 8 (by rfl) (by rfl) (by simp [go_sem, d7, p1, q1, g1, wb]; exact ⟨rfl, rfl, rfl⟩) (by rfl) (by rfl) (by simp [go_sem]) (by simp [go_sem, d7, p1, q1, g1, wb]; exact ⟨rfl, rfl⟩) (by kernel_rfl) ?_
      refine (clone_calls k7 (fun hh kk => hyt hh (hx hh kk.tail.tail.tail.tail.tail.tail)) (by rw [ht] at hm; simp at hm ⊢; omega)).mono ?_
      rintro r h8 ⟨a9, n9, rfl, k8⟩
      have d8 := k8.b1.obj
      obtain ⟨i2, o2, r2, e2, z2, ti2, ro2, p2, q2, g2⟩ := k8.b3.ob_bytes.at (P := Tryd.prog) (t := 22) Tryd.underlying22 tsz5 (j := 0) (by simp) (kd := .i64)
      cases p1.symm.trans p2
      have g2 : r2[o1]? = some (.int .u8 2) := g2
      refine ⟨by simp [still, go_sem, d8, p1, q2, g2, wb], ?_⟩
      refine awpD_restR (by rfl) (by simp [go_sem]; exact ⟨rfl, rfl, rfl⟩) ?_; try dsimp only [thn, inBlk]
      (repeat' first
        | refine AWP.seq ?_
        | refine AWP.block ?_
        | (refine AWP.skip ?_; try dsimp only [thn, inBlk])
        | (refine AWP.exit ?_; try simp only [thn, inBlk, if_true, reduceIte, Nat.reduceEqDiff])
        | (refine AWP.ret ?_; try dsimp only [thn, inBlk])
        | (refine AWP.condT ?_ ?_; (focus (simp [go_sem]; done)))
        | (refine AWP.condF ?_ ?_; (focus (simp [go_sem]; done)))
        | (apply AWP.rE; (focus (simp [go_sem]; exact ⟨rfl, rfl⟩)); try dsimp only [thn, inBlk])
        | fail)
      simp [bodyQ, thn, inBlk, resA, resV, go_sem, e]
      exact ⟨_, _, ⟨rfl, rfl⟩, k8.d1.d1.d1.d1.d1.d1⟩
    · refine awpL_restE (by simp [go_sem]; exact ⟨rfl, rfl⟩) ?_; try dsimp only [thn, inBlk]
      (repeat' first
        | refine AWP.seq ?_
        | refine AWP.block ?_
        | (refine AWP.skip ?_; try dsimp only [thn, inBlk])
        | (refine AWP.exit ?_; try simp only [thn, inBlk, if_true, reduceIte, Nat.reduceEqDiff])
        | (refine AWP.ret ?_; try dsimp only [thn, inBlk])
        | (refine AWP.condT ?_ ?_; (focus (simp [go_sem, w8]; done)))
        | (refine AWP.condF ?_ ?_; (focus (simp [go_sem, w8]; done)))
        | (apply AWP.rE; (focus (simp [go_sem, w8]; exact ⟨rfl, rfl⟩)); try dsimp only [thn, inBlk])
        | fail)
      exact ⟨4 - 3, by omega, 3, by omega, rfl, by simp [go_sem], ⟨fun _ => hN.n0 (by omega), fun _ => hN.n1 (by omega), fun _ => hn, by omega⟩, k7.tail⟩
  · have w8 : IntKind.i64.wrap 4 = 4 := by decide
    have wb : IntKind.i64.wrap 2 = 2 := by decide
    have ih := head3 (a0 := a0) (a1 := a1) (a2 := a2) (a3 := a3) (n0 := n0) (n1 := n1) (n2 := n2) (n3 := n3)
    (repeat' first
      | refine AWP.seq ?_
      | refine AWP.block ?_
      | (refine AWP.skip ?_; try dsimp only [thn, inBlk])
      | (refine AWP.exit ?_; try simp only [thn, inBlk, if_true, reduceIte, Nat.reduceEqDiff])
      | (refine AWP.ret ?_; try dsimp only [thn, inBlk])
      | (refine AWP.condT ?_ ?_; (focus (simp [go_sem, c6, cP, ih]; done)))
      | (refine AWP.condF ?_ ?_; (focus (simp [go_sem, c6, cP, ih]; done)))
      | (apply AWP.rE; (focus (simp [go_sem, c6, cP, ih]; exact ⟨rfl, rfl⟩)); try dsimp only [thn, inBlk])
      | fail)
    have k7 := k6.push (trow 3 0 37 (.slice a3 4 n3))
    have d7 := k7.obj
    refine AWP.callE (by simp [go_sem, cP, d7]; exact ⟨rfl, rfl, rfl, rfl, rfl⟩) (by kernel_rfl) ?_
    refine (cutprefix_calls (hx _ k7.tail.tail.tail.tail.tail.tail) k7.b1.ob_bytes).mono ?_
    rintro r h7 ⟨rfl, ⟨t, ht, ya, yc, rfl, hyt⟩ | ⟨hn, rfl⟩⟩
    · have e : authT 3 37 bs = (2, true, t, 0) := by rw [ht]; rfl
      refine awpL_restE (by simp [go_sem]; exact ⟨rfl, rfl⟩) ?_; try dsimp only [thn, inBlk]
      (repeat' first
        | refine AWP.seq ?_
        | refine AWP.block ?_
        | (refine AWP.skip ?_; try dsimp only [thn, inBlk])
        | (refine AWP.exit ?_; try simp only [thn, inBlk, if_true, reduceIte, Nat.reduceEqDiff])
        | (refine AWP.ret ?_; try dsimp only [thn, inBlk])
        | (refine AWP.condT ?_ ?_; (focus (simp [go_sem, d7]; done)))
        | (refine AWP.condF ?_ ?_; (focus (simp [go_sem, d7]; done)))
        | (apply AWP.rE; (focus (simp [go_sem, d7]; exact ⟨rfl, rfl⟩)); try dsimp only [thn, inBlk])
        | fail)
      obtain ⟨i1, o1, r1, e1, z1, ti1, ro1, p1, q1, g1⟩ := k7.b1.ob_bytes.at (P := Tryd.prog) (t := 22) Tryd.underlying22 tsz5 (j := 0) (by simp) (kd := .i64)
      have p1 : indexAddrP Tryd.prog 22 (.slice a3 4 n3) (.int .i64 0) = some (.pointer (some ⟨i1, o1, none⟩)) := p1
      have g1 : r1[o1]? = some (.int .u8 2) := g1
      refine AWP.draw hmix [.n 0 [7], .n 1 [46], .n 2 [47], .n 3 [48], .n 4 [49], .n 5 [6], .n 6 [51], .n 7 [8], .w 8 [53] [1, 3, 4], .n 9 [50], .n 10 [52], .n 11 [54], .n 12 []] (by kernel_rfl) ?_
      refine awpD_callR 8 (by rfl) (by rfl) (by simp [go_sem, d7, p1, q1, g1, wb]; exact ⟨rfl, rfl, rfl⟩) (by rfl) (by rfl) (by simp [go_sem]) (by simp [go_sem, d7, p1, q1, g1, wb]; exact ⟨rfl, rfl⟩) (by kernel_rfl) ?_
      refine (clone_calls k7 (fun hh kk => hyt hh (hx hh kk.tail.tail.tail.tail.tail.tail)) (by rw [ht] at hm; simp at hm ⊢; omega)).mono ?_
      rintro r h8 ⟨a9, n9, rfl, k8⟩
      have d8 := k8.b1.obj
      obtain ⟨i2, o2, r2, e2, z2, ti2, ro2, p2, q2, g2⟩ := k8.b2.ob_bytes.at (P := Tryd.prog) (t := 22) Tryd.underlying22 tsz5 (j := 0) (by simp) (kd := .i64)
      cases p1.symm.trans p2
      have g2 : r2[o1]? = some (.int .u8 2) := g2
      refine ⟨by simp [still, go_sem, d8, p1, q2, g2, wb], ?_⟩
      refine awpD_restR (by rfl) (by simp [go_sem]; exact ⟨rfl, rfl, rfl⟩) ?_; try dsimp only [thn, inBlk]
      (repeat' first
        | refine AWP.seq ?_
        | refine AWP.block ?_
        | (refine AWP.skip ?_; try dsimp only [thn, inBlk])
        | (refine AWP.exit ?_; try simp only [thn, inBlk, if_true, reduceIte, Nat.reduceEqDiff])
        | (refine AWP.ret ?_; try dsimp only [thn, inBlk])
        | (refine AWP.condT ?_ ?_; (focus (simp [go_sem]; done)))
        | (refine AWP.condF ?_ ?_; (focus (simp [go_sem]; done)))
        | (apply AWP.rE; (focus (simp [go_sem]; exact ⟨rfl, rfl⟩)); try dsimp only [thn, inBlk])
        | fail)
      simp [bodyQ, thn, inBlk, resA, resV, go_sem, e]
      exact ⟨_, _, ⟨rfl, rfl⟩, k8.d1.d1.d1.d1.d1.d1⟩
    · refine awpL_restE (by simp [go_sem]; exact ⟨rfl, rfl⟩) ?_; try dsimp only [thn, inBlk]
      (repeat' first
        | refine AWP.seq ?_
        | refine AWP.block ?_
        | (refine AWP.skip ?_; try dsimp only [thn, inBlk])
        | (refine AWP.exit ?_; try simp only [thn, inBlk, if_true, reduceIte, Nat.reduceEqDiff])
        | (refine AWP.ret ?_; try dsimp only [thn, inBlk])
        | (refine AWP.condT ?_ ?_; (focus (simp [go_sem, w8]; done)))
        | (refine AWP.condF ?_ ?_; (focus (simp [go_sem, w8]; done)))
        | (apply AWP.rE; (focus (simp [go_sem, w8]; exact ⟨rfl, rfl⟩)); try dsimp only [thn, inBlk])
        | fail)
      exact ⟨4 - 4, by omega, 4, by omega, rfl, by simp [go_sem], ⟨fun _ => hN.n0 (by omega), fun _ => hN.n1 (by omega), fun _ => hN.n2 (by omega), fun _ => hn⟩, k7.tail⟩
  · have e := authT_none hN
    (repeat' first
      | refine AWP.seq ?_
      | refine AWP.block ?_
      | (refine AWP.skip ?_; try dsimp only [thn, inBlk])
      | (refine AWP.exit ?_; try simp only [thn, inBlk, if_true, reduceIte, Nat.reduceEqDiff])
      | (refine AWP.ret ?_; try dsimp only [thn, inBlk])
      | (refine AWP.condT ?_ ?_; (focus (simp [go_sem]; done)))
      | (refine AWP.condF ?_ ?_; (focus (simp [go_sem]; done)))
      | (apply AWP.rE; (focus (simp [go_sem]; exact ⟨rfl, rfl⟩)); try dsimp only [thn, inBlk])
      | fail)
    simp [bodyQ, thn, inBlk, resA, resV, go_sem, e]
    exact ⟨none, 0, ⟨rfl, rfl⟩, k6.tail.tail.tail.tail.tail.nil 5 1⟩
end L22
