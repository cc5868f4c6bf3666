import Derived.Test.YtjjocbijmhmdkaaL18f
open Go Ab Go.Proofs
namespace L18
set_option autoImplicit false
set_option linter.unusedSimpArgs false
set_option linter.unusedVariables false
attribute [local irreducible] mcells
def mread (i : List Ot) (c most : Int) : List UInt8 × List Ot :=
  if c < 0 ∨ 4 ≤ c ∨ most ≤ 0 then ([], i) else
  let x := og i c.toNat
  let n := min most.toNat x.come.length
  (x.come.take n, i.set c.toNat ⟨x.come.drop n, x.room, x.untold + n, x.ended⟩)
theorem read_calls {O : Old} {h : AHeap} {R : List Chunk} {b : Nat} {o : List Hf} {i : List Ot} (k : Own O h (mux b o i :: R)) (mi : MI o i) (c most : Int) :
    ACalls Try.prog 16 #[ptr b, .int .i64 c, .int .i64 most] h fun r h' => Own O h' (ob 5 r (mread i c most).1 :: mux b o (mread i c most).2 :: R) := by
  refine ACalls.of_awp (args := [ptr b, .int .i64 c, .int .i64 most]) (n := 57) Try.func16 rfl rfl (by show 3 ≤ 57; omega) ?_
  by_cases h0 : c < 0
  · have e : mread i c most = ([], i) := by simp [mread, h0]
    (repeat' first
      | refine AWP.seq ?_
      | refine AWP.block ?_
      | (refine AWP.skip ?_; try dsimp only [thn, inBlk])
      | (refine AWP.exit ?_; try simp only [thn, inBlk, if_true, reduceIte, Nat.reduceEqDiff])
      | (refine AWP.ret ?_; try dsimp only [thn, inBlk])
      | (refine AWP.condT ?_ ?_; (focus (simp [go_sem, h0]; done)))
      | (refine AWP.condF ?_ ?_; (focus (simp [go_sem, h0]; done)))
      | (apply AWP.rE; (focus (simp [go_sem, h0]; exact ⟨rfl, rfl⟩)); try dsimp only [thn, inBlk])
      | fail)
    simp [bodyQ, thn, inBlk, resA, resV, go_sem, e]
    exact k.nil 5 1
  by_cases h1 : 4 ≤ c
  · have e : mread i c most = ([], i) := by simp [mread, h1]
    (repeat' first
      | refine AWP.seq ?_
      | refine AWP.block ?_
      | (refine AWP.skip ?_; try dsimp only [thn, inBlk])
      | (refine AWP.exit ?_; try simp only [thn, inBlk, if_true, reduceIte, Nat.reduceEqDiff])
      | (refine AWP.ret ?_; try dsimp only [thn, inBlk])
      | (refine AWP.condT ?_ ?_; (focus (simp [go_sem, h0, h1]; done)))
      | (refine AWP.condF ?_ ?_; (focus (simp [go_sem, h0, h1]; done)))
      | (apply AWP.rE; (focus (simp [go_sem, h0, h1]; exact ⟨rfl, rfl⟩)); try dsimp only [thn, inBlk])
      | fail)
    simp [bodyQ, thn, inBlk, resA, resV, go_sem, e]
    exact k.nil 5 1
  by_cases h2 : most ≤ 0
  · have e : mread i c most = ([], i) := by simp [mread, h2]
    (repeat' first
      | refine AWP.seq ?_
      | refine AWP.block ?_
      | (refine AWP.skip ?_; try dsimp only [thn, inBlk])
      | (refine AWP.exit ?_; try simp only [thn, inBlk, if_true, reduceIte, Nat.reduceEqDiff])
      | (refine AWP.ret ?_; try dsimp only [thn, inBlk])
      | (refine AWP.condT ?_ ?_; (focus (simp [go_sem, h0, h1, h2]; done)))
      | (refine AWP.condF ?_ ?_; (focus (simp [go_sem, h0, h1, h2]; done)))
      | (apply AWP.rE; (focus (simp [go_sem, h0, h1, h2]; exact ⟨rfl, rfl⟩)); try dsimp only [thn, inBlk])
      | fail)
    simp [bodyQ, thn, inBlk, resA, resV, go_sem, e]
    exact k.nil 5 1
  obtain ⟨n, rfl⟩ : ∃ n : Nat, c = n := ⟨c.toNat, by omega⟩
  have hn : n < 4 := by omega
  have hi : (n : Int) < 4 := by omega
  have e : mread i n most = ((og i n).come.take (min most.toNat (og i n).come.length), i.set n ⟨(og i n).come.drop (min most.toNat (og i n).come.length), (og i n).room, (og i n).untold + (min most.toNat (og i n).come.length : Nat), (og i n).ended⟩) := by simp [mread, h0, h1, h2]
  obtain ⟨ws, us, k4, kt⟩ := mux_outI hn k
  have f := k4.fo hn
  have fb := f.b
  have fl := m_len k4
  have c1 := kt.tail.obj
  have g0 := f.i0
  have g2 := f.i2
  obtain ⟨m, hmm⟩ : ∃ m, m = min most.toNat (og i n).come.length := ⟨_, rfl⟩
  rw [← hmm] at e
  have hm : foldA min2A (.int .i64 most) [.int .i64 ((og i n).come.length : Int)] = some (.int .i64 (m : Int)) := by
    simp [foldA, min2A]
    split <;> omega
  have hml : m ≤ (og i n).come.length := by omega
  have hsum := mi.sum n hn
  have hr0 := mi.r0 n
  have hu0 := mi.u0 n
  (repeat' first
    | refine AWP.seq ?_
    | refine AWP.block ?_
    | (refine AWP.skip ?_; try dsimp only [thn, inBlk])
    | (refine AWP.exit ?_; try simp only [thn, inBlk, if_true, reduceIte, Nat.reduceEqDiff])
    | (refine AWP.ret ?_; try dsimp only [thn, inBlk])
    | (refine AWP.condT ?_ ?_; (focus (simp [go_sem, h0, h1, h2, hi, c1, fb, fl, g0, hm]; done)))
    | (refine AWP.condF ?_ ?_; (focus (simp [go_sem, h0, h1, h2, hi, c1, fb, fl, g0, hm]; done)))
    | (apply AWP.rE; (focus (simp [go_sem, h0, h1, h2, hi, c1, fb, fl, g0, hm]; exact ⟨rfl, rfl⟩)); try dsimp only [thn, inBlk])
    | fail)
  have pc := fun (hh : AHeap) (kk : Own O hh (osub (og i n) (pg us n) :: cell b (mrow o ws i us) :: ((os_ i us).eraseIdx n ++ (hs o ws ++ R)))) => (kk.ob_bytes).piece (P := Try.prog) (t := 28) (e := 5) Try.underlying28 tsz5 (lo := 0) (hi := m) (by omega) hml (l := none) (u := some (.int .i64 (m : Int))) (.inl ⟨rfl, rfl⟩) (.inr ⟨.i64, rfl⟩)
  have s1 := (pc _ kt).1
  have tl : ((og i n).come.take m).length = m := by simp; omega
  refine AWP.callE (by simp [go_sem, hi, c1, fb, fl, g0, s1]; exact ⟨rfl, rfl, rfl, rfl, rfl⟩) (by kernel_rfl) ?_
  refine (clone_calls (bs := (og i n).come.take m) kt (fun hh kk => (pc hh kk).2) (by omega)).mono ?_
  rintro r h3 ⟨a2, cap2, rfl, k2⟩
  refine awpL_restE (by simp [go_sem]; exact ⟨rfl, rfl⟩) ?_; try dsimp only [thn, inBlk]
  obtain ⟨v3, s3, k3⟩ := (k2.b1).ob_slice (P := Try.prog) (t := 28) Try.underlying28 tsz5 (lo := m) (hi := (og i n).come.length) hml (Nat.le_refl _) (l := some (.int .i64 (m : Int))) (u := none) (.inr ⟨.i64, rfl⟩) (.inl ⟨rfl, rfl⟩)
  have tke : (og i n).come.take (og i n).come.length = (og i n).come := List.take_length
  rw [tke] at k3
  obtain ⟨a3, c3, rfl⟩ := k3.os_sl.val
  have c2 := k3.tail.tail.obj
  have hl : ((og i n).come.drop m).length = ((og i n).come.drop m).length := rfl
  have e4 := si0 k4 hn ((og i n).come.drop m) (a := a3) (cap := c3) rfl
  have k5 := k3.b2.set (mrow o ws (i.set n ⟨(og i n).come.drop m, (og i n).room, (og i n).untold, (og i n).ended⟩) (us.set n (a3, c3)))
  generalize hdl : ((og i n).come.drop m).length = dl at *
  (repeat' first
    | refine AWP.seq ?_
    | refine AWP.block ?_
    | (refine AWP.skip ?_; try dsimp only [thn, inBlk])
    | (refine AWP.exit ?_; try simp only [thn, inBlk, if_true, reduceIte, Nat.reduceEqDiff])
    | (refine AWP.ret ?_; try dsimp only [thn, inBlk])
    | (refine AWP.condT ?_ ?_; (focus (simp [go_sem, hi, c2, fb, fl, g0, s3, e4]; done)))
    | (refine AWP.condF ?_ ?_; (focus (simp [go_sem, hi, c2, fb, fl, g0, s3, e4]; done)))
    | (apply AWP.rE; (focus (simp [go_sem, hi, c2, fb, fl, g0, s3, e4]; exact ⟨rfl, rfl⟩)); try dsimp only [thn, inBlk])
    | fail)
  have k4b := k4.setI (c := n) ⟨(og i n).come.drop m, (og i n).room, (og i n).untold, (og i n).ended⟩ (a3, c3)
  have fb2 := (k4b.fo hn).b
  have fl2 := m_len k4b
  have g2b := (k4b.fo hn).i2
  have e5 := si2 k4b hn ((og i n).untold + (m : Int))
  rw [og_set (by rw [k4.i]; exact hn)] at g2b e5
  have w5 : IntKind.i64.wrap ((og i n).untold + (m : Int)) = (og i n).untold + (m : Int) := wI64 (by omega) (by omega)
  have c5 := k5.obj
  have k7 := k5.set (mrow o ws ((i.set n ⟨(og i n).come.drop m, (og i n).room, (og i n).untold, (og i n).ended⟩).set n ⟨(og i n).come.drop m, (og i n).room, (og i n).untold + (m : Int), (og i n).ended⟩) (us.set n (a3, c3)))
  (repeat' first
    | refine AWP.seq ?_
    | refine AWP.block ?_
    | (refine AWP.skip ?_; try dsimp only [thn, inBlk])
    | (refine AWP.exit ?_; try simp only [thn, inBlk, if_true, reduceIte, Nat.reduceEqDiff])
    | (refine AWP.ret ?_; try dsimp only [thn, inBlk])
    | (refine AWP.condT ?_ ?_; (focus (simp [go_sem, hi, c5, fb2, fl2, g2b, e5, w5]; done)))
    | (refine AWP.condF ?_ ?_; (focus (simp [go_sem, hi, c5, fb2, fl2, g2b, e5, w5]; done)))
    | (apply AWP.rE; (focus (simp [go_sem, hi, c5, fb2, fl2, g2b, e5, w5]; exact ⟨rfl, rfl⟩)); try dsimp only [thn, inBlk])
    | fail)
  simp [bodyQ, thn, inBlk, resA, resV, go_sem, e]
  rw [List.set_set] at k7
  subst hdl
  have k8 := mux_inI2 hn k4 ⟨(og i n).come.drop m, (og i n).room, (og i n).untold + (m : Int), (og i n).ended⟩ (a3, c3) k7.b1
  have k9 := k8.b1
  rw [tl] at k9
  rw [show min m (og i n).come.length = m by omega]
  exact k9
end L18
