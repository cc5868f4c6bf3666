import Derived.Test.YtaieafdiomknoaaDoorL22d
import Derived.Test.YtaieafdiomknoaaDoorAbLibE
open Go Ab Go.Proofs
namespace L22
set_option autoImplicit false
set_option linter.unusedSimpArgs false
set_option linter.unusedVariables false

/-! ### The reader -/
abbrev Tl := (Int × Int × Int) × List UInt8
abbrev pre (x : Int × Int × Int) : List Value := [.int .i64 x.1, .int .i64 x.2.1, .int .i64 x.2.2]
abbrev tels (v : Value) (fs : List Tl) : Chunk := brecs pre 24 4 5 v fs
structure Rd where
  st : Int
  pk : Int
  pv : Int
  po : Int
  pd : List UInt8
  out : List Tl
  br : Int

/-- A byte of data behind parts. -/
def addData : List Tl → UInt8 → List Tl
  | [], c => [((1, 0, 0), [c])]
  | [x], c => if x.1.1 = 1 then [(x.1, x.2 ++ [c])] else [x, ((1, 0, 0), [c])]
  | x :: y :: l, c => x :: addData (y :: l) c
theorem addData_append : ∀ (l : List Tl) (x : Tl) (c : UInt8), addData (l ++ [x]) c = l ++ (if x.1.1 = 1 then [(x.1, x.2 ++ [c])] else [x, ((1, 0, 0), [c])])
  | [], x, c => rfl
  | [y], x, c => rfl
  | y :: z :: l, x, c => by
    have := addData_append (z :: l) x c
    simp only [List.cons_append] at this ⊢
    rw [addData, this]

def dataR (s : Rd) (c : UInt8) : Rd := { s with out := addData s.out c }
def wholeR (s : Rd) : Rd := ⟨0, 0, 0, 0, [], s.out ++ [((s.pk, s.pv, s.po), s.pd)], s.br⟩
def moreR (s : Rd) (c : UInt8) : Rd := if 3000 ≤ s.pd.length then { s with br := 23 } else { s with pd := s.pd ++ [c], st := 4 }
def commandR (s : Rd) (c : UInt8) : Rd :=
  if c = 255 then dataR { s with st := 0 } c
  else if 251 ≤ c then ⟨2, 2, c.toNat, 0, [], s.out, s.br⟩
  else if c = 250 then ⟨3, 3, 0, 0, [], s.out, s.br⟩
  else if c ≤ 240 then { s with st := 0, br := 21 }
  else { s with st := 0 }
def takeR (s : Rd) (c : UInt8) : Rd :=
  if s.st = 0 then (if c = 255 then { s with st := 1 } else dataR s c)
  else if s.st = 1 then commandR s c
  else if s.st = 2 then wholeR { s with po := c.toNat }
  else if s.st = 3 then { s with po := c.toNat, st := 4 }
  else if s.st = 4 then (if c = 255 then { s with st := 5 } else moreR s c)
  else if s.st = 5 then (if c = 255 then moreR s c else if c = 240 then wholeR s else { s with br := 21 })
  else s

abbrev rrow (s : Rd) (pa : Option Addr) (pc : Nat) (oa : Option Addr) (oc : Nat) : AObj :=
  .row [.int .i64 s.st, .int .i64 s.pk, .int .i64 s.pv, .int .i64 s.po, .slice pa s.pd.length pc, .slice oa s.out.length oc, .int .i64 s.br] 59 7 true false
def rdr (i : Nat) (s : Rd) : Chunk := ex fun x : (Option Addr × Nat) × Option Addr × Nat => star [cell i (rrow s x.1.1 x.1.2 x.2.1 x.2.2), ob 5 (.slice x.1.1 s.pd.length x.1.2) s.pd, tels (.slice x.2.1 s.out.length x.2.2) s.out]
theorem rdr_iff {O : Old} {h : AHeap} {R : List Chunk} {i : Nat} {s : Rd} : Own O h (rdr i s :: R) ↔ ∃ pa pc oa oc, Own O h (cell i (rrow s pa pc oa oc) :: ob 5 (.slice pa s.pd.length pc) s.pd :: tels (.slice oa s.out.length oc) s.out :: R) := by
  simp only [rdr, Own.ex_iff, Own.star_iff, List.cons_append, List.nil_append]
  exact ⟨fun ⟨x, k⟩ => ⟨_, _, _, _, k⟩, fun ⟨pa, pc, oa, oc, k⟩ => ⟨((pa, pc), oa, oc), k⟩⟩

def rd0 : Rd := ⟨0, 0, 0, 0, [], [], 0⟩
theorem new_calls {O : Old} {h : AHeap} {R : List Chunk} (k : Own O h R) : ACalls Tryd.prog 11 #[] h fun r h' => ∃ i, r = ptr i ∧ Own O h' (rdr i rd0 :: R) := by
  refine ACalls.of_awp (args := []) (n := 3) Tryd.func11 rfl rfl (by show 0 ≤ 3; omega) ?_
  have k1 := k.push (rrow rd0 none 0 none 0)
  (repeat' first
    | refine AWP.seq ?_
    | refine AWP.block ?_
    | (refine AWP.skip ?_; try dsimp only [thn, inBlk])
    | (refine AWP.exit ?_; try simp only [thn, inBlk, if_true, reduceIte, Nat.reduceEqDiff])
    | (refine AWP.ret ?_; try dsimp only [thn, inBlk])
    | (refine AWP.condT ?_ ?_; (focus (simp [go_sem]; done)))
    | (refine AWP.condF ?_ ?_; (focus (simp [go_sem]; done)))
    | (apply AWP.rE; (focus (simp [go_sem]; exact ⟨rfl, rfl⟩)); try dsimp only [thn, inBlk])
    | fail)
  simp [bodyQ, thn, inBlk, resA, resV, go_sem]
  exact rdr_iff.2 ⟨none, 0, none, 0, ((k1.brecs_nil (pre := pre) 24 4 5).nil 5 1).b2⟩

/-- How much may be there. -/
structure RI (n : Nat) (s : Rd) : Prop where
  out : s.out.length ≤ n
  bod : ∀ f ∈ s.out, f.2.length ≤ 3000 + n
  pd : s.pd.length ≤ 3000

set_option maxHeartbeats 2000000 in
theorem data_calls {O : Old} {h : AHeap} {R : List Chunk} {i n : Nat} {s : Rd} {c : UInt8} (k : Own O h (rdr i s :: R)) (hi : RI n s) (hn : n ≤ 1000000) :
    ACalls Tryd.prog 31 #[ptr i, .int .u8 c.toNat] h fun r h' => Own O h' (rdr i (dataR s c) :: R) := by
  obtain ⟨st, pk, pv, po, pd, out, br⟩ := s
  obtain ⟨pa, pc, oa, oc, k1⟩ := rdr_iff.1 k
  dsimp only at k1
  have c1 := k1.obj
  have h1 := hi.out
  have h2 := hi.bod
  dsimp only at h1 h2
  refine ACalls.of_awp (args := [ptr i, .int .u8 c.toNat]) (n := 56) Tryd.func31 rfl rfl (by show 2 ≤ 56; omega) ?_
  have hnew : addData out c = out ++ [((1, 0, 0), [c])] → ∃ oa' oc' h2, appendW Tryd.prog ((h.push (.row [.int .u8 c.toNat] 5 1 true false)).push (.row [.int .i64 1, .int .i64 0, .int .i64 0, .slice (some ⟨h.next, 0, none⟩) 1 1] 24 4 true false)) 33 33 (.slice oa out.length oc) (.slice (some ⟨h.next + 1, 0, none⟩) 1 1) = some (.slice oa' (out.length + 1) oc', h2) ∧
      h2.obj i = some (rrow ⟨st, pk, pv, po, pd, out, br⟩ pa pc oa oc) ∧ Own O (h2.set i (.row [.int .i64 st, .int .i64 pk, .int .i64 pv, .int .i64 po, .slice pa pd.length pc, .slice oa' (out.length + 1) oc', .int .i64 br] 59 7 true false)) (rdr i (dataR ⟨st, pk, pv, po, pd, out, br⟩ c) :: R) := by
    intro he
    have k2 : Own O (h.push (.row [.int .u8 c.toNat] 5 1 true false)) (ob 5 (.slice (some ⟨h.next, 0, none⟩) 1 1) [c] :: cell i (rrow ⟨st, pk, pv, po, pd, out, br⟩ pa pc oa oc) :: ob 5 (.slice pa pd.length pc) pd :: tels (.slice oa out.length oc) out :: R) := k1.fresh (e := 5) (bs := [c])
    obtain ⟨oa', oc', h2, e1, k3⟩ := Own.brecs_app (pre := pre) (P := Tryd.prog) (t := 33) (xt := 33) (x := (1, 0, 0)) (bs := [c]) (ba := some ⟨h.next, 0, none⟩) (bc := 1) Tryd.underlying33 tsz24 tby24 tz24 nI33 (by omega) rfl rfl rfl k2.b3 rfl (by omega)
    have c3 := k3.b1.obj
    have k4 := k3.b1.set (rrow ⟨st, pk, pv, po, pd, out ++ [((1, 0, 0), [c])], br⟩ pa pc oa' oc')
    refine ⟨oa', oc', h2, e1, c3, ?_⟩
    have hd : dataR ⟨st, pk, pv, po, pd, out, br⟩ c = ⟨st, pk, pv, po, pd, out ++ [((1, 0, 0), [c])], br⟩ := by simp only [dataR, he]
    have hl : (out ++ [(((1 : Int), (0 : Int), (0 : Int)), [c])]).length = out.length + 1 := by simp
    rw [hd]
    refine rdr_iff.2 ⟨pa, pc, oa', oc', ?_⟩
    dsimp only [rrow] at k4 ⊢
    rw [hl] at k4 ⊢
    exact k4.b2.b1
  rcases List.eq_nil_or_concat out with rfl | ⟨l, x, rfl⟩
  · obtain ⟨oa', oc', h2, e1, c3, k4⟩ := hnew rfl
    simp only [List.length_nil, Nat.zero_add] at e1 k4
    (repeat' first
      | refine AWP.seq ?_
      | refine AWP.block ?_
      | (refine AWP.skip ?_; try dsimp only [thn, inBlk])
      | (refine AWP.exit ?_; try simp only [thn, inBlk, if_true, reduceIte, Nat.reduceEqDiff])
      | (refine AWP.ret ?_; try dsimp only [thn, inBlk])
      | (refine AWP.condT ?_ ?_; (focus (simp [go_sem, c1, e1, c3]; done)))
      | (refine AWP.condF ?_ ?_; (focus (simp [go_sem, c1, e1, c3]; done)))
      | (apply AWP.rE; (focus (simp [go_sem, c1, e1, c3]; exact ⟨rfl, rfl⟩)); try dsimp only [thn, inBlk])
      | fail)
    simp [bodyQ, thn, inBlk, resA, resV, go_sem]
    exact k4
  obtain ⟨⟨xk, xv, xo⟩, xb⟩ := x
  simp only [List.concat_eq_append] at *
  have hll : (l ++ [((xk, xv, xo), xb)]).length = l.length + 1 := by simp
  rw [hll] at h1
  have hpos : (0 : Int) < (l.length : Int) + 1 := by omega
  have w1 : IntKind.i64.wrap (l.length : Int) = l.length := by rw [wI64 (by omega) (by omega)]
  have hxb := h2 ((xk, xv, xo), xb) (by simp)
  dsimp only at hxb
  have k1t := k1.b2
  rw [hll] at k1t hnew
  have hget : (l ++ [((xk, xv, xo), xb)])[l.length]'(by omega) = ((xk, xv, xo), xb) := by simp
  obtain ⟨i0, off, cc, ti, a, cap, X, p0, q0, g0, ku, hback⟩ := k1t.brecs_upd (P := Tryd.prog) (t := 33) (m := 3) (fun _ => rfl) Tryd.underlying33 tsz24 (j := l.length) (by omega) (kd := .i64)
  rw [hget] at g0 ku hback
  dsimp only at g0 ku hback
  have f0 : cc[off]? = some (.int .i64 xk) := g0 0 _ rfl
  have f3 : cc[off + 3]? = some (.slice a xb.length cap) := g0 3 _ rfl
  have d0 := ku.obj
  have d1 := ku.tail.tail.rest.obj
  by_cases hk : xk = 1
  · subst hk
    (repeat' first
      | refine AWP.seq ?_
      | refine AWP.block ?_
      | (refine AWP.skip ?_; try dsimp only [thn, inBlk])
      | (refine AWP.exit ?_; try simp only [thn, inBlk, if_true, reduceIte, Nat.reduceEqDiff])
      | (refine AWP.ret ?_; try dsimp only [thn, inBlk])
      | (refine AWP.condT ?_ ?_; (focus (simp [go_sem, d0, d1, hpos, w1, p0, q0, f0]; done)))
      | (refine AWP.condF ?_ ?_; (focus (simp [go_sem, d0, d1, hpos, w1, p0, q0, f0]; done)))
      | (apply AWP.rE; (focus (simp [go_sem, d0, d1, hpos, w1, p0, q0, f0]; exact ⟨rfl, rfl⟩)); try dsimp only [thn, inBlk])
      | fail)
    obtain ⟨a2, cap2, h3, e3, k3⟩ := Own.appB1 (P := Tryd.prog) (t := 22) (xt := 22) (c := c) Tryd.underlying22 tsz5 tby5 tz5 nI22 ku.b1 rfl (by omega)
    have d3 := k3.b1.obj
    have d4 := k3.tail.tail.rest.obj
    have q0' : off + 3 < cc.length := by omega
    refine AWP.draw hmix [.n 0 [0], .n 1 [24], .n 2 [25], .n 3 [26], .n 4 [4], .n 5 [28], .n 6 [0], .n 7 [30], .n 8 [31], .n 9 [32], .n 10 [4], .n 11 [34], .n 12 [33, 35], .n 13 [36], .n 14 [37], .n 15 [1], .n 16 [39], .w 17 [38, 40] [3], .n 18 [27, 29], .n 19 [42], .w 20 [43, 41] []] (by kernel_rfl) ?_
    refine awpD_writeR 17 (by rfl) (by rfl) (by simp [go_sem, d0, d1, w1, p0, q0, f0, f3, d4, e3]; exact ⟨rfl, rfl, rfl⟩) (by rfl) (by rfl) (by simp [go_sem]) (by simp [go_sem, d0, d1, w1, p0, q0, f0, f3, d4, e3]; exact ⟨rfl, rfl⟩) (by simp [still, go_sem, d0, d1, w1, p0, q0, f0, f3, d4, e3]) ?_
    refine awpD_writeR 2 (by rfl) (by rfl) (by simp [go_sem, d3, d4, p0, q0, q0']; exact ⟨rfl, rfl, rfl⟩) (by rfl) (by rfl) (by simp [go_sem]) (by simp [go_sem, d3, d4, p0, q0, q0']; exact ⟨rfl, rfl⟩) (by simp [still, go_sem, d3, d4, p0, q0, q0']) ?_
    refine awpD_restR (by rfl) (by simp [go_sem]; exact ⟨rfl, rfl, rfl⟩) ?_; try dsimp only [thn, inBlk]
    (repeat' first
      | refine AWP.seq ?_
      | refine AWP.block ?_
      | (refine AWP.skip ?_; try dsimp only [thn, inBlk])
      | (refine AWP.exit ?_; try simp only [thn, inBlk, if_true, reduceIte, Nat.reduceEqDiff])
      | (refine AWP.ret ?_; try dsimp only [thn, inBlk])
      | (refine AWP.condT ?_ ?_; (focus (simp [go_sem]; done)))
      | (refine AWP.condF ?_ ?_; (focus (simp [go_sem]; done)))
      | (apply AWP.rE; (focus (simp [go_sem]; exact ⟨rfl, rfl⟩)); try dsimp only [thn, inBlk])
      | fail)
    simp [bodyQ, thn, inBlk, resA, resV, go_sem]
    have hs : (l ++ [((1, xv, xo), xb)]).set l.length ((1, xv, xo), xb ++ [c]) = l ++ [((1, xv, xo), xb ++ [c])] := by simp
    have hd : dataR ⟨st, pk, pv, po, pd, l ++ [((1, xv, xo), xb)], br⟩ c = ⟨st, pk, pv, po, pd, l ++ [((1, xv, xo), xb ++ [c])], br⟩ := by simp only [dataR, addData_append]; rfl
    have hl2 : (l ++ [((1, xv, xo), xb ++ [c])]).length = l.length + 1 := by simp
    have hx : (xb ++ [c]).length = xb.length + 1 := by simp
    rw [hd]
    refine rdr_iff.2 ⟨pa, pc, oa, oc, ?_⟩
    dsimp only [rrow]
    rw [hl2]
    have k4 := k3.b1.set (.row (cc.set (off + 3) (.slice a2 (xb ++ [c]).length cap2)) 24 4 ti false)
    have k5 := hback _ a2 cap2 (xb ++ [c]) (by rw [hx] at k4 ⊢; exact k4)
    rw [hs] at k5
    dsimp only [rrow] at k5
    rw [hll] at k5
    exact k5.p2
  have hk' : (xk == 1) = false := by simpa using hk
  obtain ⟨oa', oc', h2, e1, c3, k4⟩ := hnew (by rw [addData_append]; simp [hk])
  dsimp only [rrow] at c1 c3
  rw [hll] at c1 c3
  (repeat' first
    | refine AWP.seq ?_
    | refine AWP.block ?_
    | (refine AWP.skip ?_; try dsimp only [thn, inBlk])
    | (refine AWP.exit ?_; try simp only [thn, inBlk, if_true, reduceIte, Nat.reduceEqDiff])
    | (refine AWP.ret ?_; try dsimp only [thn, inBlk])
    | (refine AWP.condT ?_ ?_; (focus (simp [go_sem, c1, hpos, w1, p0, d0, q0, f0, hk', e1, c3]; done)))
    | (refine AWP.condF ?_ ?_; (focus (simp [go_sem, c1, hpos, w1, p0, d0, q0, f0, hk', e1, c3]; done)))
    | (apply AWP.rE; (focus (simp [go_sem, c1, hpos, w1, p0, d0, q0, f0, hk', e1, c3]; exact ⟨rfl, rfl⟩)); try dsimp only [thn, inBlk])
    | fail)
  simp [bodyQ, thn, inBlk, resA, resV, go_sem]
  exact k4
end L22
