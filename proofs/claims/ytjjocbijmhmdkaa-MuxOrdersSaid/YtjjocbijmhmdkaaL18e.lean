import Derived.Test.YtjjocbijmhmdkaaL18d
open Go Ab Go.Proofs
namespace L18
set_option autoImplicit false
set_option linter.unusedSimpArgs false
set_option linter.unusedVariables false

section
variable {O : Old} {h : AHeap} {R : List Chunk} {b c : Nat} {o : List Hf} {ws us : List PA} {i : List Ot}
theorem pset (hc : c < ws.length) : ws.set c (pg ws c) = ws := by
  rw [← pg_eq hc, List.set_getElem_self]
theorem so0 (k : Four o ws i us) (hc : c < 4) (w : List UInt8) {a : Option Addr} {n cap : Nat} (hn : n = w.length) : (mcells o ws i us).set (c * 4) (.slice a n cap) = mcells (o.set c ⟨w, (hg o c).credit, (hg o c).closed, (hg o c).told⟩) (ws.set c (a, cap)) i us := by
  subst hn
  exact m_setO k hc (f := 0) (by omega) (by rw [hg_eq, pg_eq]; rfl)
theorem so1 (k : Four o ws i us) (hc : c < 4) (n : Int) : (mcells o ws i us).set (c * 4 + 1) (.int .i64 n) = mcells (o.set c ⟨(hg o c).wait, n, (hg o c).closed, (hg o c).told⟩) ws i us := by
  rw [m_setO k hc (f := 1) (by omega) (x := ⟨(hg o c).wait, n, (hg o c).closed, (hg o c).told⟩) (p := pg ws c) (by rw [hg_eq, pg_eq]; rfl), pset (by rw [k.w]; exact hc)]
theorem so2 (k : Four o ws i us) (hc : c < 4) (n : Bool) : (mcells o ws i us).set (c * 4 + 2) (.bool n) = mcells (o.set c ⟨(hg o c).wait, (hg o c).credit, n, (hg o c).told⟩) ws i us := by
  rw [m_setO k hc (f := 2) (by omega) (x := ⟨(hg o c).wait, (hg o c).credit, n, (hg o c).told⟩) (p := pg ws c) (by rw [hg_eq, pg_eq]; rfl), pset (by rw [k.w]; exact hc)]
theorem so3 (k : Four o ws i us) (hc : c < 4) (n : Bool) : (mcells o ws i us).set (c * 4 + 3) (.bool n) = mcells (o.set c ⟨(hg o c).wait, (hg o c).credit, (hg o c).closed, n⟩) ws i us := by
  rw [m_setO k hc (f := 3) (by omega) (x := ⟨(hg o c).wait, (hg o c).credit, (hg o c).closed, n⟩) (p := pg ws c) (by rw [hg_eq, pg_eq]; rfl), pset (by rw [k.w]; exact hc)]
theorem si0 (k : Four o ws i us) (hc : c < 4) (w : List UInt8) {a : Option Addr} {n cap : Nat} (hn : n = w.length) : (mcells o ws i us).set (16 + c * 4) (.slice a n cap) = mcells o ws (i.set c ⟨w, (og i c).room, (og i c).untold, (og i c).ended⟩) (us.set c (a, cap)) := by
  subst hn
  exact m_setI k hc (f := 0) (by omega) (by rw [og_eq, pg_eq]; rfl)
theorem si1 (k : Four o ws i us) (hc : c < 4) (n : Int) : (mcells o ws i us).set (16 + c * 4 + 1) (.int .i64 n) = mcells o ws (i.set c ⟨(og i c).come, n, (og i c).untold, (og i c).ended⟩) us := by
  rw [m_setI k hc (f := 1) (by omega) (x := ⟨(og i c).come, n, (og i c).untold, (og i c).ended⟩) (p := pg us c) (by rw [og_eq, pg_eq]; rfl), pset (by rw [k.u]; exact hc)]
theorem si2 (k : Four o ws i us) (hc : c < 4) (n : Int) : (mcells o ws i us).set (16 + c * 4 + 2) (.int .i64 n) = mcells o ws (i.set c ⟨(og i c).come, (og i c).room, n, (og i c).ended⟩) us := by
  rw [m_setI k hc (f := 2) (by omega) (x := ⟨(og i c).come, (og i c).room, n, (og i c).ended⟩) (p := pg us c) (by rw [og_eq, pg_eq]; rfl), pset (by rw [k.u]; exact hc)]
theorem si3 (k : Four o ws i us) (hc : c < 4) (n : Bool) : (mcells o ws i us).set (16 + c * 4 + 3) (.bool n) = mcells o ws (i.set c ⟨(og i c).come, (og i c).room, (og i c).untold, n⟩) us := by
  rw [m_setI k hc (f := 3) (by omega) (x := ⟨(og i c).come, (og i c).room, (og i c).untold, n⟩) (p := pg us c) (by rw [og_eq, pg_eq]; rfl), pset (by rw [k.u]; exact hc)]

theorem mux_outO (hc : c < 4) (k : Own O h (mux b o i :: R)) : ∃ ws us, Four o ws i us ∧ Own O h (hsub (hg o c) (pg ws c) :: cell b (mrow o ws i us) :: ((hs o ws).eraseIdx c ++ (os_ i us ++ R))) := by
  obtain ⟨ws, us, k4, kt⟩ := mux_iff.1 k
  have := hs_get k4 hc
  rw [hg_eq, pg_eq] at this
  exact ⟨ws, us, k4, Own.out this kt⟩
theorem mux_inO (hc : c < 4) (k4 : Four o ws i us) (x : Hf) (p : PA) (k : Own O h (hsub x p :: cell b (mrow (o.set c x) (ws.set c p) i us) :: ((hs o ws).eraseIdx c ++ (os_ i us ++ R)))) : Own O h (mux b (o.set c x) i :: R) := by
  have := Own.into (hs_get k4 hc) k
  rw [hs_set k4 hc] at this
  exact mux_iff.2 ⟨_, _, k4.setO x p, this⟩
theorem mux_outI (hc : c < 4) (k : Own O h (mux b o i :: R)) : ∃ ws us, Four o ws i us ∧ Own O h (osub (og i c) (pg us c) :: cell b (mrow o ws i us) :: ((os_ i us).eraseIdx c ++ (hs o ws ++ R))) := by
  obtain ⟨ws, us, k4, kt⟩ := mux_iff.1 k
  have := os_get k4 hc
  rw [og_eq, pg_eq] at this
  refine ⟨ws, us, k4, Own.out this (kt.perm (List.Perm.cons _ ?_))⟩
  rw [← List.append_assoc, ← List.append_assoc]
  exact List.perm_append_comm.append_right _
theorem mux_inI (hc : c < 4) (k4 : Four o ws i us) (x : Ot) (p : PA) (k : Own O h (osub x p :: cell b (mrow o ws (i.set c x) (us.set c p)) :: ((os_ i us).eraseIdx c ++ (hs o ws ++ R)))) : Own O h (mux b o (i.set c x) :: R) := by
  have := Own.into (os_get k4 hc) k
  rw [os_set k4 hc] at this
  refine mux_iff.2 ⟨_, _, k4.setI x p, this.perm (List.Perm.cons _ ?_)⟩
  rw [← List.append_assoc, ← List.append_assoc]
  exact List.perm_append_comm.append_right _
theorem perm_in (A : Chunk) (E H R : List Chunk) : List.Perm (A :: (E ++ (H ++ R))) (E ++ (H ++ (A :: R))) := by
  rw [← List.append_assoc, ← List.append_assoc]
  exact (List.perm_middle (l₁ := E ++ H)).symm
theorem mux_inO2 {A : Chunk} (hc : c < 4) (k4 : Four o ws i us) (x : Hf) (p : PA) (k : Own O h (hsub x p :: cell b (mrow (o.set c x) (ws.set c p) i us) :: A :: ((hs o ws).eraseIdx c ++ (os_ i us ++ R)))) : Own O h (mux b (o.set c x) i :: A :: R) :=
  mux_inO hc k4 x p (k.perm (((perm_in A _ _ R).cons _).cons _))
theorem mux_inI2 {A : Chunk} (hc : c < 4) (k4 : Four o ws i us) (x : Ot) (p : PA) (k : Own O h (osub x p :: cell b (mrow o ws (i.set c x) (us.set c p)) :: A :: ((os_ i us).eraseIdx c ++ (hs o ws ++ R)))) : Own O h (mux b o (i.set c x) :: A :: R) :=
  mux_inI hc k4 x p (k.perm (((perm_in A _ _ R).cons _).cons _))
end
attribute [local irreducible] mcells
def mwrite (o : List Hf) (c : Int) (d : List UInt8) : Int × List Hf :=
  if mopen o c ≠ 0 then (mopen o c, o) else
  if 4096 - (hg o c.toNat).wait.length < d.length then (2, o) else
  (0, o.set c.toNat ⟨(hg o c.toNat).wait ++ d, (hg o c.toNat).credit, (hg o c.toNat).closed, (hg o c.toNat).told⟩)
theorem mopen_zero {o : List Hf} {c : Int} (h : mopen o c = 0) : 0 ≤ c ∧ c < 4 := by
  unfold mopen at h
  split at h
  · omega
  · omega
theorem write_calls {O : Old} {h : AHeap} {R : List Chunk} {b : Nat} {o : List Hf} {i : List Ot} {v : Value} {d : List UInt8} (k : Own O h (mux b o i :: R)) (mi : MI o i) (c : Int) (hx : ∀ h, Own O h R → Bytes h v d) (hd : d.length ≤ 70368744177664) :
    ACalls Try.prog 10 #[ptr b, .int .i64 c, v] h fun r h' => r = .int .i64 (mwrite o c d).1 ∧ Own O h' (mux b (mwrite o c d).2 i :: R) := by
  refine ACalls.of_awp (args := [ptr b, .int .i64 c, v]) (n := 39) Try.func10 rfl rfl (by show 3 ≤ 39; omega) ?_
  have hv := hx _ k.tail
  (repeat' first
    | refine AWP.seq ?_
    | refine AWP.block ?_
    | (refine AWP.skip ?_; try dsimp only [thn, inBlk])
    | (refine AWP.exit ?_; try simp only [thn, inBlk, if_true, reduceIte, Nat.reduceEqDiff])
    | (refine AWP.ret ?_; try dsimp only [thn, inBlk])
    | (refine AWP.condT ?_ ?_; (focus (simp [go_sem]; done)))
    | (refine AWP.condF ?_ ?_; (focus (simp [go_sem]; done)))
    | (apply AWP.rE; (focus (simp [go_sem]; exact ⟨rfl, rfl⟩)); try dsimp only [thn, inBlk])
    | fail)
  refine AWP.callE (by simp [go_sem]; exact ⟨rfl, rfl, rfl, rfl, rfl⟩) (by kernel_rfl) ?_
  refine (open_calls k c).mono ?_
  rintro r h' ⟨rfl, rfl⟩
  refine awpL_restE (by simp [go_sem]; exact ⟨rfl, rfl⟩) ?_; try dsimp only [thn, inBlk]
  generalize he : mopen o c = e
  by_cases h0 : e = 0
  rotate_left
  · have h0b : (e == 0) = false := by simpa using h0
    have e2 : mwrite o c d = (e, o) := by simp [mwrite, he, h0]
    (repeat' first
      | refine AWP.seq ?_
      | refine AWP.block ?_
      | (refine AWP.skip ?_; try dsimp only [thn, inBlk])
      | (refine AWP.exit ?_; try simp only [thn, inBlk, if_true, reduceIte, Nat.reduceEqDiff])
      | (refine AWP.ret ?_; try dsimp only [thn, inBlk])
      | (refine AWP.condT ?_ ?_; (focus (simp [go_sem, h0, h0b]; done)))
      | (refine AWP.condF ?_ ?_; (focus (simp [go_sem, h0, h0b]; done)))
      | (apply AWP.rE; (focus (simp [go_sem, h0, h0b]; exact ⟨rfl, rfl⟩)); try dsimp only [thn, inBlk])
      | fail)
    simp [bodyQ, thn, inBlk, resA, resV, go_sem, e2]
    exact k
  subst h0
  have hcc := mopen_zero he
  obtain ⟨n, rfl⟩ : ∃ n : Nat, c = n := ⟨c.toNat, by omega⟩
  have hn : n < 4 := by omega
  have hi : (n : Int) < 4 := by omega
  obtain ⟨ws, us, k4, kt⟩ := mux_outO hn k
  have f := k4.fo hn
  have fb := f.b
  have fl := m_len k4
  have c1 := kt.tail.obj
  have g := f.o0
  have hw := mi.w n
  have w1 : IntKind.i64.wrap (4096 - ((hg o n).wait.length : Int)) = 4096 - ((hg o n).wait.length : Int) := wI64 (by omega) (by omega)
  obtain ⟨va, vcap, rfl⟩ := hv.val
  by_cases hf : 4096 - (hg o n).wait.length < d.length
  · have hf2 : (4096 : Int) - ((hg o n).wait.length : Int) < (d.length : Int) := by omega
    have e2 : mwrite o n d = (2, o) := by simp [mwrite, he, hf]
    (repeat' first
      | refine AWP.seq ?_
      | refine AWP.block ?_
      | (refine AWP.skip ?_; try dsimp only [thn, inBlk])
      | (refine AWP.exit ?_; try simp only [thn, inBlk, if_true, reduceIte, Nat.reduceEqDiff])
      | (refine AWP.ret ?_; try dsimp only [thn, inBlk])
      | (refine AWP.condT ?_ ?_; (focus (simp [go_sem, hi, c1, fb, fl, g, w1, hf2]; done)))
      | (refine AWP.condF ?_ ?_; (focus (simp [go_sem, hi, c1, fb, fl, g, w1, hf2]; done)))
      | (apply AWP.rE; (focus (simp [go_sem, hi, c1, fb, fl, g, w1, hf2]; exact ⟨rfl, rfl⟩)); try dsimp only [thn, inBlk])
      | fail)
    simp [bodyQ, thn, inBlk, resA, resV, go_sem, e2]
    exact k
  have hf2 : ¬ (4096 : Int) - ((hg o n).wait.length : Int) < (d.length : Int) := by omega
  (repeat' first
    | refine AWP.seq ?_
    | refine AWP.block ?_
    | (refine AWP.skip ?_; try dsimp only [thn, inBlk])
    | (refine AWP.exit ?_; try simp only [thn, inBlk, if_true, reduceIte, Nat.reduceEqDiff])
    | (refine AWP.ret ?_; try dsimp only [thn, inBlk])
    | (refine AWP.condT ?_ ?_; (focus (simp [go_sem, hi, c1, fb, fl, g, w1, hf2]; done)))
    | (refine AWP.condF ?_ ?_; (focus (simp [go_sem, hi, c1, fb, fl, g, w1, hf2]; done)))
    | (apply AWP.rE; (focus (simp [go_sem, hi, c1, fb, fl, g, w1, hf2]; exact ⟨rfl, rfl⟩)); try dsimp only [thn, inBlk])
    | fail)
  refine AWP.callE (by simp [go_sem, hi, c1, fb, fl, g]; exact ⟨rfl, rfl, rfl, rfl, rfl⟩) (by kernel_rfl) ?_
  refine (clone_calls kt (fun h k => k.ob_bytes) (by omega)).mono ?_
  rintro r h2 ⟨a2, cap2, rfl, k2⟩
  obtain ⟨a3, c3, h3, e3, k3⟩ := k2.appB (P := Try.prog) (t := 28) (xt := 28) Try.underlying28 tsz5 tby5 tz5 nI28 (hx _ k2.tail.tail.tail.rest.rest).src (by omega)
  have c2 := k3.tail.tail.obj
  have hl : (hg o n).wait.length + d.length = ((hg o n).wait ++ d).length := by simp
  have e4 := so0 k4 hn ((hg o n).wait ++ d) (a := a3) (cap := c3) hl
  have k5 := k3.b2.set (mrow (o.set n ⟨(hg o n).wait ++ d, (hg o n).credit, (hg o n).closed, (hg o n).told⟩) (ws.set n (a3, c3)) i us)
  rw [hl] at k5
  have k6 := mux_inO hn k4 ⟨(hg o n).wait ++ d, (hg o n).credit, (hg o n).closed, (hg o n).told⟩ (a3, c3) k5.b1.d2
  have e2 : mwrite o n d = (0, o.set n ⟨(hg o n).wait ++ d, (hg o n).credit, (hg o n).closed, (hg o n).told⟩) := by simp [mwrite, he, hf]
  refine awpL_restE (by simp [go_sem, e3, c2, fb, fl, e4]; exact ⟨rfl, rfl⟩) ?_; try dsimp only [thn, inBlk]
  (repeat' first
    | refine AWP.seq ?_
    | refine AWP.block ?_
    | (refine AWP.skip ?_; try dsimp only [thn, inBlk])
    | (refine AWP.exit ?_; try simp only [thn, inBlk, if_true, reduceIte, Nat.reduceEqDiff])
    | (refine AWP.ret ?_; try dsimp only [thn, inBlk])
    | (refine AWP.condT ?_ ?_; (focus (simp [go_sem]; done)))
    | (refine AWP.condF ?_ ?_; (focus (simp [go_sem]; done)))
    | (apply AWP.rE; (focus (simp [go_sem]; exact ⟨rfl, rfl⟩)); try dsimp only [thn, inBlk])
    | fail)
  simp [bodyQ, thn, inBlk, resA, resV, go_sem, e2]
  exact k6
end L18
