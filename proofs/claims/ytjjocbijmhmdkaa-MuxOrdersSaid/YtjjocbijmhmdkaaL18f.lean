import Derived.Test.YtjjocbijmhmdkaaL18e
open Go Ab Go.Proofs
namespace L18
set_option autoImplicit false
set_option linter.unusedSimpArgs false
set_option linter.unusedVariables false
section
variable {O : Old} {h : AHeap} {R : List Chunk} {b c : Nat} {o : List Hf} {ws us : List PA} {i : List Ot}
theorem mux_inO' (hc : c < 4) (k4 : Four o ws i us) (x : Hf) (hw : x.wait = (hg o c).wait) (k : Own O h (hsub (hg o c) (pg ws c) :: cell b (mrow (o.set c x) ws i us) :: ((hs o ws).eraseIdx c ++ (os_ i us ++ R)))) : Own O h (mux b (o.set c x) i :: R) := by
  refine mux_inO hc k4 x (pg ws c) ?_
  rw [pset (by rw [k4.w]; exact hc)]
  have : hsub x (pg ws c) = hsub (hg o c) (pg ws c) := by simp only [hsub, hw]
  rw [this]; exact k
theorem mux_inI' (hc : c < 4) (k4 : Four o ws i us) (x : Ot) (hw : x.come = (og i c).come) (k : Own O h (osub (og i c) (pg us c) :: cell b (mrow o ws (i.set c x) us) :: ((os_ i us).eraseIdx c ++ (hs o ws ++ R)))) : Own O h (mux b o (i.set c x) :: R) := by
  refine mux_inI hc k4 x (pg us c) ?_
  rw [pset (by rw [k4.u]; exact hc)]
  have : osub x (pg us c) = osub (og i c) (pg us c) := by simp only [osub, hw]
  rw [this]; exact k
end
attribute [local irreducible] mcells
def mclose (o : List Hf) (c : Int) : Int × List Hf :=
  if mopen o c ≠ 0 then (mopen o c, o) else
  (0, o.set c.toNat ⟨(hg o c.toNat).wait, (hg o c.toNat).credit, true, (hg o c.toNat).told⟩)
theorem close_calls {O : Old} {h : AHeap} {R : List Chunk} {b : Nat} {o : List Hf} {i : List Ot} (k : Own O h (mux b o i :: R)) (c : Int) :
    ACalls Try.prog 15 #[ptr b, .int .i64 c] h fun r h' => r = .int .i64 (mclose o c).1 ∧ Own O h' (mux b (mclose o c).2 i :: R) := by
  refine ACalls.of_awp (args := [ptr b, .int .i64 c]) (n := 18) Try.func15 rfl rfl (by show 2 ≤ 18; omega) ?_
  (repeat' first
    | refine AWP.seq ?_
    | refine AWP.block ?_
    | (refine AWP.skip ?_; try dsimp only [thn, inBlk])
    | (refine AWP.exit ?_; try simp only [thn, inBlk, if_true, reduceIte, Nat.reduceEqDiff])
    | (refine AWP.ret ?_; try dsimp only [thn, inBlk])
    | (refine AWP.condT ?_ ?_; (focus (simp [go_sem]; done)))
    | (refine AWP.condF ?_ ?_; (focus (simp [go_sem]; done)))
    | (apply AWP.rE; (focus (simp [go_sem]; exact ⟨rfl, rfl⟩)); try dsimp only [thn, inBlk])
    | fail)
  refine AWP.callE (by simp [go_sem]; exact ⟨rfl, rfl, rfl, rfl, rfl⟩) (by kernel_rfl) ?_
  refine (open_calls k c).mono ?_
  rintro r h' ⟨rfl, rfl⟩
  refine awpL_restE (by simp [go_sem]; exact ⟨rfl, rfl⟩) ?_; try dsimp only [thn, inBlk]
  generalize he : mopen o c = e
  by_cases h0 : e = 0
  rotate_left
  · have h0b : (e == 0) = false := by simpa using h0
    have e2 : mclose o c = (e, o) := by simp [mclose, he, h0]
    (repeat' first
      | refine AWP.seq ?_
      | refine AWP.block ?_
      | (refine AWP.skip ?_; try dsimp only [thn, inBlk])
      | (refine AWP.exit ?_; try simp only [thn, inBlk, if_true, reduceIte, Nat.reduceEqDiff])
      | (refine AWP.ret ?_; try dsimp only [thn, inBlk])
      | (refine AWP.condT ?_ ?_; (focus (simp [go_sem, h0, h0b]; done)))
      | (refine AWP.condF ?_ ?_; (focus (simp [go_sem, h0, h0b]; done)))
      | (apply AWP.rE; (focus (simp [go_sem, h0, h0b]; exact ⟨rfl, rfl⟩)); try dsimp only [thn, inBlk])
      | fail)
    simp [bodyQ, thn, inBlk, resA, resV, go_sem, e2]
    exact k
  subst h0
  have hcc := mopen_zero he
  obtain ⟨n, rfl⟩ : ∃ n : Nat, c = n := ⟨c.toNat, by omega⟩
  have hn : n < 4 := by omega
  have hi : (n : Int) < 4 := by omega
  obtain ⟨ws, us, k4, kt⟩ := mux_outO hn k
  have f := k4.fo hn
  have fb := f.b
  have fl := m_len k4
  have c1 := kt.tail.obj
  have e4 := so2 k4 hn true
  have k5 := kt.b1.set (mrow (o.set n ⟨(hg o n).wait, (hg o n).credit, true, (hg o n).told⟩) ws i us)
  have k6 := mux_inO' hn k4 ⟨(hg o n).wait, (hg o n).credit, true, (hg o n).told⟩ rfl k5.b1
  have e2 : mclose o n = (0, o.set n ⟨(hg o n).wait, (hg o n).credit, true, (hg o n).told⟩) := by simp [mclose, he]
  (repeat' first
    | refine AWP.seq ?_
    | refine AWP.block ?_
    | (refine AWP.skip ?_; try dsimp only [thn, inBlk])
    | (refine AWP.exit ?_; try simp only [thn, inBlk, if_true, reduceIte, Nat.reduceEqDiff])
    | (refine AWP.ret ?_; try dsimp only [thn, inBlk])
    | (refine AWP.condT ?_ ?_; (focus (simp [go_sem, hi, c1, fb, fl, e4]; done)))
    | (refine AWP.condF ?_ ?_; (focus (simp [go_sem, hi, c1, fb, fl, e4]; done)))
    | (apply AWP.rE; (focus (simp [go_sem, hi, c1, fb, fl, e4]; exact ⟨rfl, rfl⟩)); try dsimp only [thn, inBlk])
    | fail)
  simp [bodyQ, thn, inBlk, resA, resV, go_sem, e2]
  exact k6

def mended (i : List Ot) (c : Int) : Bool := if 0 ≤ c ∧ c < 4 then (og i c.toNat).ended && (og i c.toNat).come.isEmpty else false
theorem ended_calls {O : Old} {h : AHeap} {R : List Chunk} {b : Nat} {o : List Hf} {i : List Ot} (k : Own O h (mux b o i :: R)) (c : Int) :
    ACalls Try.prog 17 #[ptr b, .int .i64 c] h fun r h' => r = .bool (mended i c) ∧ h' = h := by
  refine ACalls.of_awp (args := [ptr b, .int .i64 c]) (n := 31) Try.func17 rfl rfl (by show 2 ≤ 31; omega) ?_
  by_cases h0 : 0 ≤ c
  rotate_left
  · have e : mended i c = false := by simp [mended, h0]
    (repeat' first
      | refine AWP.seq ?_
      | refine AWP.block ?_
      | (refine AWP.skip ?_; try dsimp only [thn, inBlk])
      | (refine AWP.exit ?_; try simp only [thn, inBlk, if_true, reduceIte, Nat.reduceEqDiff])
      | (refine AWP.ret ?_; try dsimp only [thn, inBlk])
      | (refine AWP.condT ?_ ?_; (focus (simp [go_sem, h0]; done)))
      | (refine AWP.condF ?_ ?_; (focus (simp [go_sem, h0]; done)))
      | (apply AWP.rE; (focus (simp [go_sem, h0]; exact ⟨rfl, rfl⟩)); try dsimp only [thn, inBlk])
      | fail)
    simp [bodyQ, thn, inBlk, resA, resV, go_sem, e]
  by_cases h1 : c < 4
  rotate_left
  · have e : mended i c = false := by simp [mended, h1]
    (repeat' first
      | refine AWP.seq ?_
      | refine AWP.block ?_
      | (refine AWP.skip ?_; try dsimp only [thn, inBlk])
      | (refine AWP.exit ?_; try simp only [thn, inBlk, if_true, reduceIte, Nat.reduceEqDiff])
      | (refine AWP.ret ?_; try dsimp only [thn, inBlk])
      | (refine AWP.condT ?_ ?_; (focus (simp [go_sem, h0, h1]; done)))
      | (refine AWP.condF ?_ ?_; (focus (simp [go_sem, h0, h1]; done)))
      | (apply AWP.rE; (focus (simp [go_sem, h0, h1]; exact ⟨rfl, rfl⟩)); try dsimp only [thn, inBlk])
      | fail)
    simp [bodyQ, thn, inBlk, resA, resV, go_sem, e]
  obtain ⟨n, rfl⟩ : ∃ n : Nat, c = n := ⟨c.toNat, by omega⟩
  have hn : n < 4 := by omega
  obtain ⟨ws, us, k4, kt⟩ := mux_iff.1 k
  have f := k4.fo hn
  have fb := f.b
  have fl := m_len k4
  have c1 := kt.obj
  have g0 := f.i0
  have g3 := f.i3
  have e : mended i n = ((og i n).ended && (og i n).come.isEmpty) := by simp [mended, h1]
  cases he : (og i n).ended
  · rw [he] at g3 e
    (repeat' first
      | refine AWP.seq ?_
      | refine AWP.block ?_
      | (refine AWP.skip ?_; try dsimp only [thn, inBlk])
      | (refine AWP.exit ?_; try simp only [thn, inBlk, if_true, reduceIte, Nat.reduceEqDiff])
      | (refine AWP.ret ?_; try dsimp only [thn, inBlk])
      | (refine AWP.condT ?_ ?_; (focus (simp [go_sem, h0, h1, c1, fb, fl, g0, g3]; done)))
      | (refine AWP.condF ?_ ?_; (focus (simp [go_sem, h0, h1, c1, fb, fl, g0, g3]; done)))
      | (apply AWP.rE; (focus (simp [go_sem, h0, h1, c1, fb, fl, g0, g3]; exact ⟨rfl, rfl⟩)); try dsimp only [thn, inBlk])
      | fail)
    simp [bodyQ, thn, inBlk, resA, resV, go_sem, e]
  rw [he] at g3 e
  cases hl : (og i n).come.isEmpty
  · have e0 : (((og i n).come.length : Int) == 0) = false := by
      simp at hl ⊢; exact hl
    rw [hl] at e
    (repeat' first
      | refine AWP.seq ?_
      | refine AWP.block ?_
      | (refine AWP.skip ?_; try dsimp only [thn, inBlk])
      | (refine AWP.exit ?_; try simp only [thn, inBlk, if_true, reduceIte, Nat.reduceEqDiff])
      | (refine AWP.ret ?_; try dsimp only [thn, inBlk])
      | (refine AWP.condT ?_ ?_; (focus (simp [go_sem, h0, h1, c1, fb, fl, g0, g3, e0]; done)))
      | (refine AWP.condF ?_ ?_; (focus (simp [go_sem, h0, h1, c1, fb, fl, g0, g3, e0]; done)))
      | (apply AWP.rE; (focus (simp [go_sem, h0, h1, c1, fb, fl, g0, g3, e0]; exact ⟨rfl, rfl⟩)); try dsimp only [thn, inBlk])
      | fail)
    simp [bodyQ, thn, inBlk, resA, resV, go_sem, e]
  · have e0 : (og i n).come = [] := by simpa using hl
    rw [e0] at g0
    rw [hl] at e
    (repeat' first
      | refine AWP.seq ?_
      | refine AWP.block ?_
      | (refine AWP.skip ?_; try dsimp only [thn, inBlk])
      | (refine AWP.exit ?_; try simp only [thn, inBlk, if_true, reduceIte, Nat.reduceEqDiff])
      | (refine AWP.ret ?_; try dsimp only [thn, inBlk])
      | (refine AWP.condT ?_ ?_; (focus (simp [go_sem, h0, h1, c1, fb, fl, g0, g3, e0]; done)))
      | (refine AWP.condF ?_ ?_; (focus (simp [go_sem, h0, h1, c1, fb, fl, g0, g3, e0]; done)))
      | (apply AWP.rE; (focus (simp [go_sem, h0, h1, c1, fb, fl, g0, g3, e0]; exact ⟨rfl, rfl⟩)); try dsimp only [thn, inBlk])
      | fail)
    simp [bodyQ, thn, inBlk, resA, resV, go_sem, e]
end L18
