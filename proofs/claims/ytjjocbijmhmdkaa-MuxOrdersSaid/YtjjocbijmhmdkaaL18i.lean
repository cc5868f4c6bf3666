import Derived.Test.YtjjocbijmhmdkaaL18h
open Go Ab Go.Proofs
namespace L18
set_option autoImplicit false
set_option linter.unusedSimpArgs false
set_option linter.unusedVariables false
attribute [local irreducible] mcells
abbrev Fr := Int × List UInt8
def mtake (o : List Hf) (i : List Ot) (f : Fr) : Int × List Hf × List Ot :=
  if f.1 = 4 then mctrl o i f.2 else
  if f.1 < 0 ∨ 4 ≤ f.1 then (100, o, i) else
  let y := og i f.1.toNat
  if y.ended then (102, o, i) else
  if y.room < f.2.length then (101, o, i) else
  (0, o, i.set f.1.toNat ⟨y.come ++ f.2, y.room - f.2.length, y.untold, y.ended⟩)
set_option maxHeartbeats 2000000 in
theorem take_calls {O : Old} {h : AHeap} {R : List Chunk} {b : Nat} {o : List Hf} {i : List Ot} {a : Option Addr} {cap : Nat} (f : Fr) (k : Own O h (mux b o i :: R)) (mi : MI o i) (hx : ∀ h, Own O h R → Bytes h (.slice a f.2.length cap) f.2) (hm : f.2.length ≤ 1000000000) :
    ACalls Try.prog 13 #[ptr b, .agg #[.int .i64 f.1, .slice a f.2.length cap]] h fun r h' => r = .int .i64 (mtake o i f).1 ∧ Own O h' (mux b (mtake o i f).2.1 (mtake o i f).2.2 :: R) := by
  obtain ⟨c, d⟩ := f
  change ∀ h, Own O h R → Bytes h (.slice a d.length cap) d at hx
  change d.length ≤ 1000000000 at hm
  have k1 := k.push (.row [.int .i64 c, .slice a d.length cap] 30 2 true false)
  have c1 := k1.obj
  refine ACalls.of_awp (args := [ptr b, .agg #[.int .i64 c, .slice a d.length cap]]) (n := 62) Try.func13 rfl rfl (by show 2 ≤ 62; omega) ?_
  by_cases h4 : c = 4
  · subst h4
    have e : mtake o i (4, d) = mctrl o i d := by simp [mtake]
    rw [e]
    (repeat' first
      | refine AWP.seq ?_
      | refine AWP.block ?_
      | (refine AWP.skip ?_; try dsimp only [thn, inBlk])
      | (refine AWP.exit ?_; try simp only [thn, inBlk, if_true, reduceIte, Nat.reduceEqDiff])
      | (refine AWP.ret ?_; try dsimp only [thn, inBlk])
      | (refine AWP.condT ?_ ?_; (focus (simp [go_sem, c1]; done)))
      | (refine AWP.condF ?_ ?_; (focus (simp [go_sem, c1]; done)))
      | (apply AWP.rE; (focus (simp [go_sem, c1]; exact ⟨rfl, rfl⟩)); try dsimp only [thn, inBlk])
      | (apply AWP.dE hmix [.n 0 [0], .n 1 [3], .n 2 [22], .n 3 [21], .n 4 [24], .n 5 [25, 23], .n 6 [26]]; (focus kernel_rfl); (focus (simp [go_sem, c1]; exact ⟨rfl, rfl⟩)); try dsimp only [thn, inBlk])
      | (apply AWP.dE hmix [.n 0 [3], .n 1 [33], .n 2 [34], .n 3 [5], .n 4 [36], .n 5 [37], .n 6 [38], .n 7 [35, 39], .n 8 [40]]; (focus kernel_rfl); (focus (simp [go_sem, c1]; exact ⟨rfl, rfl⟩)); try dsimp only [thn, inBlk])
      | (apply AWP.dE hmix [.n 0 [5], .n 1 [52], .n 2 [53], .n 3 [54], .n 4 [3], .n 5 [56], .n 6 [57], .n 7 [55, 58], .n 8 [52], .n 9 [60], .w 10 [61, 59] []]; (focus kernel_rfl); (focus (simp [go_sem, c1]; exact ⟨rfl, rfl⟩)); try dsimp only [thn, inBlk])
      | fail)
    refine AWP.callE (by simp [go_sem, c1]; exact ⟨rfl, rfl, rfl, rfl, rfl⟩) (by kernel_rfl) ?_
    refine (control_calls k1.b1 mi (fun hh kk => hx hh kk.tail)).mono ?_
    rintro r h2 ⟨rfl, k2⟩
    refine awpL_restE (by simp [go_sem]; exact ⟨rfl, rfl⟩) ?_; try dsimp only [thn, inBlk]
    (repeat' first
      | refine AWP.seq ?_
      | refine AWP.block ?_
      | (refine AWP.skip ?_; try dsimp only [thn, inBlk])
      | (refine AWP.exit ?_; try simp only [thn, inBlk, if_true, reduceIte, Nat.reduceEqDiff])
      | (refine AWP.ret ?_; try dsimp only [thn, inBlk])
      | (refine AWP.condT ?_ ?_; (focus (simp [go_sem]; done)))
      | (refine AWP.condF ?_ ?_; (focus (simp [go_sem]; done)))
      | (apply AWP.rE; (focus (simp [go_sem]; exact ⟨rfl, rfl⟩)); try dsimp only [thn, inBlk])
      | (apply AWP.dE hmix [.n 0 [0], .n 1 [3], .n 2 [22], .n 3 [21], .n 4 [24], .n 5 [25, 23], .n 6 [26]]; (focus kernel_rfl); (focus (simp [go_sem]; exact ⟨rfl, rfl⟩)); try dsimp only [thn, inBlk])
      | (apply AWP.dE hmix [.n 0 [3], .n 1 [33], .n 2 [34], .n 3 [5], .n 4 [36], .n 5 [37], .n 6 [38], .n 7 [35, 39], .n 8 [40]]; (focus kernel_rfl); (focus (simp [go_sem]; exact ⟨rfl, rfl⟩)); try dsimp only [thn, inBlk])
      | (apply AWP.dE hmix [.n 0 [5], .n 1 [52], .n 2 [53], .n 3 [54], .n 4 [3], .n 5 [56], .n 6 [57], .n 7 [55, 58], .n 8 [52], .n 9 [60], .w 10 [61, 59] []]; (focus kernel_rfl); (focus (simp [go_sem]; exact ⟨rfl, rfl⟩)); try dsimp only [thn, inBlk])
      | fail)
    simp [bodyQ, thn, inBlk, resA, resV, go_sem]
    exact k2.d1
  have h4' : (c == 4) = false := by simpa using h4
  by_cases h0 : c < 0
  · have e : mtake o i (c, d) = (100, o, i) := by simp [mtake, h4, h0]
    rw [e]
    (repeat' first
      | refine AWP.seq ?_
      | refine AWP.block ?_
      | (refine AWP.skip ?_; try dsimp only [thn, inBlk])
      | (refine AWP.exit ?_; try simp only [thn, inBlk, if_true, reduceIte, Nat.reduceEqDiff])
      | (refine AWP.ret ?_; try dsimp only [thn, inBlk])
      | (refine AWP.condT ?_ ?_; (focus (simp [go_sem, c1, h4, h4', h0]; done)))
      | (refine AWP.condF ?_ ?_; (focus (simp [go_sem, c1, h4, h4', h0]; done)))
      | (apply AWP.rE; (focus (simp [go_sem, c1, h4, h4', h0]; exact ⟨rfl, rfl⟩)); try dsimp only [thn, inBlk])
      | (apply AWP.dE hmix [.n 0 [0], .n 1 [3], .n 2 [22], .n 3 [21], .n 4 [24], .n 5 [25, 23], .n 6 [26]]; (focus kernel_rfl); (focus (simp [go_sem, c1, h4, h4', h0]; exact ⟨rfl, rfl⟩)); try dsimp only [thn, inBlk])
      | (apply AWP.dE hmix [.n 0 [3], .n 1 [33], .n 2 [34], .n 3 [5], .n 4 [36], .n 5 [37], .n 6 [38], .n 7 [35, 39], .n 8 [40]]; (focus kernel_rfl); (focus (simp [go_sem, c1, h4, h4', h0]; exact ⟨rfl, rfl⟩)); try dsimp only [thn, inBlk])
      | (apply AWP.dE hmix [.n 0 [5], .n 1 [52], .n 2 [53], .n 3 [54], .n 4 [3], .n 5 [56], .n 6 [57], .n 7 [55, 58], .n 8 [52], .n 9 [60], .w 10 [61, 59] []]; (focus kernel_rfl); (focus (simp [go_sem, c1, h4, h4', h0]; exact ⟨rfl, rfl⟩)); try dsimp only [thn, inBlk])
      | fail)
    simp [bodyQ, thn, inBlk, resA, resV, go_sem]
    exact k1.tail
  by_cases h5 : 4 ≤ c
  · have e : mtake o i (c, d) = (100, o, i) := by simp [mtake, h4, h5]
    rw [e]
    (repeat' first
      | refine AWP.seq ?_
      | refine AWP.block ?_
      | (refine AWP.skip ?_; try dsimp only [thn, inBlk])
      | (refine AWP.exit ?_; try simp only [thn, inBlk, if_true, reduceIte, Nat.reduceEqDiff])
      | (refine AWP.ret ?_; try dsimp only [thn, inBlk])
      | (refine AWP.condT ?_ ?_; (focus (simp [go_sem, c1, h4, h4', h0, h5]; done)))
      | (refine AWP.condF ?_ ?_; (focus (simp [go_sem, c1, h4, h4', h0, h5]; done)))
      | (apply AWP.rE; (focus (simp [go_sem, c1, h4, h4', h0, h5]; exact ⟨rfl, rfl⟩)); try dsimp only [thn, inBlk])
      | (apply AWP.dE hmix [.n 0 [0], .n 1 [3], .n 2 [22], .n 3 [21], .n 4 [24], .n 5 [25, 23], .n 6 [26]]; (focus kernel_rfl); (focus (simp [go_sem, c1, h4, h4', h0, h5]; exact ⟨rfl, rfl⟩)); try dsimp only [thn, inBlk])
      | (apply AWP.dE hmix [.n 0 [3], .n 1 [33], .n 2 [34], .n 3 [5], .n 4 [36], .n 5 [37], .n 6 [38], .n 7 [35, 39], .n 8 [40]]; (focus kernel_rfl); (focus (simp [go_sem, c1, h4, h4', h0, h5]; exact ⟨rfl, rfl⟩)); try dsimp only [thn, inBlk])
      | (apply AWP.dE hmix [.n 0 [5], .n 1 [52], .n 2 [53], .n 3 [54], .n 4 [3], .n 5 [56], .n 6 [57], .n 7 [55, 58], .n 8 [52], .n 9 [60], .w 10 [61, 59] []]; (focus kernel_rfl); (focus (simp [go_sem, c1, h4, h4', h0, h5]; exact ⟨rfl, rfl⟩)); try dsimp only [thn, inBlk])
      | fail)
    simp [bodyQ, thn, inBlk, resA, resV, go_sem]
    exact k1.tail
  obtain ⟨n, rfl⟩ : ∃ n : Nat, c = n := ⟨c.toNat, by omega⟩
  have hn : n < 4 := by omega
  have hi : (n : Int) < 4 := by omega
  have e : mtake o i (n, d) = if (og i n).ended then (102, o, i) else if (og i n).room < d.length then (101, o, i) else (0, o, i.set n ⟨(og i n).come ++ d, (og i n).room - d.length, (og i n).untold, (og i n).ended⟩) := by simp [mtake, h4, h0, h5]
  rw [e]
  obtain ⟨ws, us, k4, kt⟩ := mux_outI hn k1.b1
  have fb := (k4.fo hn).b
  have fl := m_len k4
  have c2 := kt.tail.obj
  have f0 := (k4.fo hn).i0
  have f1 := (k4.fo hn).i1
  have f3 := (k4.fo hn).i3
  have hsum := mi.sum n hn
  have hr0 := mi.r0 n
  have hu0 := mi.u0 n
  cases he : (og i n).ended <;> rw [he] at f3
  rotate_left
  · (repeat' first
      | refine AWP.seq ?_
      | refine AWP.block ?_
      | (refine AWP.skip ?_; try dsimp only [thn, inBlk])
      | (refine AWP.exit ?_; try simp only [thn, inBlk, if_true, reduceIte, Nat.reduceEqDiff])
      | (refine AWP.ret ?_; try dsimp only [thn, inBlk])
      | (refine AWP.condT ?_ ?_; (focus (simp [go_sem, c1, h4, h4', h0, h5, hi, c2, fl, fb, f3]; done)))
      | (refine AWP.condF ?_ ?_; (focus (simp [go_sem, c1, h4, h4', h0, h5, hi, c2, fl, fb, f3]; done)))
      | (apply AWP.rE; (focus (simp [go_sem, c1, h4, h4', h0, h5, hi, c2, fl, fb, f3]; exact ⟨rfl, rfl⟩)); try dsimp only [thn, inBlk])
      | (apply AWP.dE hmix [.n 0 [0], .n 1 [3], .n 2 [22], .n 3 [21], .n 4 [24], .n 5 [25, 23], .n 6 [26]]; (focus kernel_rfl); (focus (simp [go_sem, c1, h4, h4', h0, h5, hi, c2, fl, fb, f3]; exact ⟨rfl, rfl⟩)); try dsimp only [thn, inBlk])
      | (apply AWP.dE hmix [.n 0 [3], .n 1 [33], .n 2 [34], .n 3 [5], .n 4 [36], .n 5 [37], .n 6 [38], .n 7 [35, 39], .n 8 [40]]; (focus kernel_rfl); (focus (simp [go_sem, c1, h4, h4', h0, h5, hi, c2, fl, fb, f3]; exact ⟨rfl, rfl⟩)); try dsimp only [thn, inBlk])
      | (apply AWP.dE hmix [.n 0 [5], .n 1 [52], .n 2 [53], .n 3 [54], .n 4 [3], .n 5 [56], .n 6 [57], .n 7 [55, 58], .n 8 [52], .n 9 [60], .w 10 [61, 59] []]; (focus kernel_rfl); (focus (simp [go_sem, c1, h4, h4', h0, h5, hi, c2, fl, fb, f3]; exact ⟨rfl, rfl⟩)); try dsimp only [thn, inBlk])
      | fail)
    simp [bodyQ, thn, inBlk, resA, resV, go_sem]
    exact k1.tail
  by_cases hr : (og i n).room < d.length
  · (repeat' first
      | refine AWP.seq ?_
      | refine AWP.block ?_
      | (refine AWP.skip ?_; try dsimp only [thn, inBlk])
      | (refine AWP.exit ?_; try simp only [thn, inBlk, if_true, reduceIte, Nat.reduceEqDiff])
      | (refine AWP.ret ?_; try dsimp only [thn, inBlk])
      | (refine AWP.condT ?_ ?_; (focus (simp [go_sem, c1, h4, h4', h0, h5, hi, c2, fl, fb, f3, f1, hr]; done)))
      | (refine AWP.condF ?_ ?_; (focus (simp [go_sem, c1, h4, h4', h0, h5, hi, c2, fl, fb, f3, f1, hr]; done)))
      | (apply AWP.rE; (focus (simp [go_sem, c1, h4, h4', h0, h5, hi, c2, fl, fb, f3, f1, hr]; exact ⟨rfl, rfl⟩)); try dsimp only [thn, inBlk])
      | (apply AWP.dE hmix [.n 0 [0], .n 1 [3], .n 2 [22], .n 3 [21], .n 4 [24], .n 5 [25, 23], .n 6 [26]]; (focus kernel_rfl); (focus (simp [go_sem, c1, h4, h4', h0, h5, hi, c2, fl, fb, f3, f1, hr]; exact ⟨rfl, rfl⟩)); try dsimp only [thn, inBlk])
      | (apply AWP.dE hmix [.n 0 [3], .n 1 [33], .n 2 [34], .n 3 [5], .n 4 [36], .n 5 [37], .n 6 [38], .n 7 [35, 39], .n 8 [40]]; (focus kernel_rfl); (focus (simp [go_sem, c1, h4, h4', h0, h5, hi, c2, fl, fb, f3, f1, hr]; exact ⟨rfl, rfl⟩)); try dsimp only [thn, inBlk])
      | (apply AWP.dE hmix [.n 0 [5], .n 1 [52], .n 2 [53], .n 3 [54], .n 4 [3], .n 5 [56], .n 6 [57], .n 7 [55, 58], .n 8 [52], .n 9 [60], .w 10 [61, 59] []]; (focus kernel_rfl); (focus (simp [go_sem, c1, h4, h4', h0, h5, hi, c2, fl, fb, f3, f1, hr]; exact ⟨rfl, rfl⟩)); try dsimp only [thn, inBlk])
      | fail)
    simp [bodyQ, thn, inBlk, resA, resV, go_sem, hr]
    exact k1.tail
  (repeat' first
    | refine AWP.seq ?_
    | refine AWP.block ?_
    | (refine AWP.skip ?_; try dsimp only [thn, inBlk])
    | (refine AWP.exit ?_; try simp only [thn, inBlk, if_true, reduceIte, Nat.reduceEqDiff])
    | (refine AWP.ret ?_; try dsimp only [thn, inBlk])
    | (refine AWP.condT ?_ ?_; (focus (simp [go_sem, c1, h4, h4', h0, h5, hi, c2, fl, fb, f3, f1, hr]; done)))
    | (refine AWP.condF ?_ ?_; (focus (simp [go_sem, c1, h4, h4', h0, h5, hi, c2, fl, fb, f3, f1, hr]; done)))
    | (apply AWP.rE; (focus (simp [go_sem, c1, h4, h4', h0, h5, hi, c2, fl, fb, f3, f1, hr]; exact ⟨rfl, rfl⟩)); try dsimp only [thn, inBlk])
    | (apply AWP.dE hmix [.n 0 [0], .n 1 [3], .n 2 [22], .n 3 [21], .n 4 [24], .n 5 [25, 23], .n 6 [26]]; (focus kernel_rfl); (focus (simp [go_sem, c1, h4, h4', h0, h5, hi, c2, fl, fb, f3, f1, hr]; exact ⟨rfl, rfl⟩)); try dsimp only [thn, inBlk])
    | (apply AWP.dE hmix [.n 0 [3], .n 1 [33], .n 2 [34], .n 3 [5], .n 4 [36], .n 5 [37], .n 6 [38], .n 7 [35, 39], .n 8 [40]]; (focus kernel_rfl); (focus (simp [go_sem, c1, h4, h4', h0, h5, hi, c2, fl, fb, f3, f1, hr]; exact ⟨rfl, rfl⟩)); try dsimp only [thn, inBlk])
    | (apply AWP.dE hmix [.n 0 [5], .n 1 [52], .n 2 [53], .n 3 [54], .n 4 [3], .n 5 [56], .n 6 [57], .n 7 [55, 58], .n 8 [52], .n 9 [60], .w 10 [61, 59] []]; (focus kernel_rfl); (focus (simp [go_sem, c1, h4, h4', h0, h5, hi, c2, fl, fb, f3, f1, hr]; exact ⟨rfl, rfl⟩)); try dsimp only [thn, inBlk])
    | fail)
  refine AWP.draw hmix [.n 0 [5], .n 1 [5], .n 2 [42], .n 3 [43], .n 4 [44], .n 6 [3], .n 7 [47], .w 5 [45] [7], .w 8 [46, 48] [], .n 9 [41], .n 10 [50], .w 11 [51, 49] []] (by kernel_rfl) ?_
  refine awpD_callR 7 (by rfl) (by rfl) (by simp [go_sem, c1, c2, f0, fl, fb]; exact ⟨rfl, rfl, rfl⟩) (by rfl) (by rfl) (by simp [go_sem]) (by simp [go_sem, c1, c2, f0, fl, fb]; exact ⟨rfl, rfl⟩) (by kernel_rfl) ?_
  refine (clone_calls kt (fun h k => k.ob_bytes) (by omega)).mono ?_
  rintro r h2 ⟨a2, cap2, rfl, k2⟩
  have c3 := k2.b2.obj
  have c4 := k2.tail.tail.tail.rest.rest.obj
  refine ⟨by simp [still, go_sem, c1, c2, c3, c4, f0, fl, fb], ?_⟩
  obtain ⟨a3, cap3, h3, e3, k3⟩ := k2.appB (P := Try.prog) (t := 28) (xt := 28) Try.underlying28 tsz5 tby5 tz5 nI28 (hx _ k2.tail.tail.tail.rest.rest.tail).src (by omega)
  have c5 := k3.b2.obj
  have c6 := k3.tail.tail.tail.rest.rest.obj
  refine awpD_writeR 0 (by rfl) (by rfl) (by simp [go_sem, c3, c4, f0, fl, fb, e3, c5, c6]; exact ⟨rfl, rfl, rfl⟩) (by rfl) (by rfl) (by simp [go_sem]) (by simp [go_sem, c3, c4, f0, fl, fb, e3, c5, c6]; exact ⟨rfl, rfl⟩) (by simp [still, go_sem, c3, c4, f0, fl, fb, e3, c5, c6]) ?_
  have hl : (og i n).come.length + d.length = ((og i n).come ++ d).length := by simp
  have e4 := si0 k4 hn ((og i n).come ++ d) (a := a3) (cap := cap3) hl
  have k5 := k3.b2.set (mrow o ws (i.set n ⟨(og i n).come ++ d, (og i n).room, (og i n).untold, (og i n).ended⟩) (us.set n (a3, cap3)))
  refine awpD_writeR 2 (by rfl) (by rfl) (by simp [go_sem, c5, c6, f0, fl, fb, e4]; exact ⟨rfl, rfl, rfl⟩) (by rfl) (by rfl) (by simp [go_sem]) (by simp [go_sem, c5, c6, f0, fl, fb, e4]; exact ⟨rfl, rfl⟩) (by simp [still, go_sem, c5, c6, f0, fl, fb, e4]) ?_
  refine awpD_restR (by rfl) (by simp [go_sem]; exact ⟨rfl, rfl, rfl⟩) ?_; try dsimp only [thn, inBlk]
  have k4b := k4.setI (c := n) ⟨(og i n).come ++ d, (og i n).room, (og i n).untold, (og i n).ended⟩ (a3, cap3)
  have fb2 := (k4b.fo hn).b
  have fl2 := m_len k4b
  have g2b := (k4b.fo hn).i1
  have e5 := si1 k4b hn ((og i n).room - (d.length : Int))
  rw [og_set (by rw [k4.i]; exact hn)] at g2b e5
  have w5 : IntKind.i64.wrap ((og i n).room - (d.length : Int)) = (og i n).room - (d.length : Int) := wI64 (by omega) (by omega)
  have c7 := k5.obj
  have c8 := k5.tail.tail.tail.rest.rest.obj
  have k7 := k5.set (mrow o ws ((i.set n ⟨(og i n).come ++ d, (og i n).room, (og i n).untold, (og i n).ended⟩).set n ⟨(og i n).come ++ d, (og i n).room - (d.length : Int), (og i n).untold, (og i n).ended⟩) (us.set n (a3, cap3)))
  (repeat' first
    | refine AWP.seq ?_
    | refine AWP.block ?_
    | (refine AWP.skip ?_; try dsimp only [thn, inBlk])
    | (refine AWP.exit ?_; try simp only [thn, inBlk, if_true, reduceIte, Nat.reduceEqDiff])
    | (refine AWP.ret ?_; try dsimp only [thn, inBlk])
    | (refine AWP.condT ?_ ?_; (focus (simp [go_sem, c7, c8, fb2, fl2, g2b, e5, w5]; done)))
    | (refine AWP.condF ?_ ?_; (focus (simp [go_sem, c7, c8, fb2, fl2, g2b, e5, w5]; done)))
    | (apply AWP.rE; (focus (simp [go_sem, c7, c8, fb2, fl2, g2b, e5, w5]; exact ⟨rfl, rfl⟩)); try dsimp only [thn, inBlk])
    | (apply AWP.dE hmix [.n 0 [0], .n 1 [3], .n 2 [22], .n 3 [21], .n 4 [24], .n 5 [25, 23], .n 6 [26]]; (focus kernel_rfl); (focus (simp [go_sem, c7, c8, fb2, fl2, g2b, e5, w5]; exact ⟨rfl, rfl⟩)); try dsimp only [thn, inBlk])
    | (apply AWP.dE hmix [.n 0 [3], .n 1 [33], .n 2 [34], .n 3 [5], .n 4 [36], .n 5 [37], .n 6 [38], .n 7 [35, 39], .n 8 [40]]; (focus kernel_rfl); (focus (simp [go_sem, c7, c8, fb2, fl2, g2b, e5, w5]; exact ⟨rfl, rfl⟩)); try dsimp only [thn, inBlk])
    | (apply AWP.dE hmix [.n 0 [5], .n 1 [52], .n 2 [53], .n 3 [54], .n 4 [3], .n 5 [56], .n 6 [57], .n 7 [55, 58], .n 8 [52], .n 9 [60], .w 10 [61, 59] []]; (focus kernel_rfl); (focus (simp [go_sem, c7, c8, fb2, fl2, g2b, e5, w5]; exact ⟨rfl, rfl⟩)); try dsimp only [thn, inBlk])
    | fail)
  simp [bodyQ, thn, inBlk, resA, resV, go_sem, hr, he]
  rw [List.set_set] at k7
  rw [hl] at k7
  have k8 := mux_inI hn k4 ⟨(og i n).come ++ d, (og i n).room - (d.length : Int), (og i n).untold, (og i n).ended⟩ (a3, cap3) k7.b1.d2
  rw [he] at k8
  exact k8.b1.tail
end L18
