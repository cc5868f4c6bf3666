import Derived.Test.YtjjocbijmhmdkaaL18c
open Go Ab Go.Proofs
namespace L18
set_option autoImplicit false
set_option linter.unusedSimpArgs false
set_option linter.unusedVariables false

/-! ### What the calls of a side do, said plainly -/
def hz : Hf := ⟨[], 0, false, false⟩
def oz : Ot := ⟨[], 0, 0, false⟩
def hg (o : List Hf) (c : Nat) : Hf := o[c]?.getD hz
def og (i : List Ot) (c : Nat) : Ot := i[c]?.getD oz
def pg (ws : List PA) (c : Nat) : PA := ws[c]?.getD (none, 0)
structure MI (o : List Hf) (i : List Ot) : Prop where
  ol : o.length = 4
  il : i.length = 4
  w : ∀ c, (hg o c).wait.length ≤ 4096
  cr0 : ∀ c, 0 ≤ (hg o c).credit
  cr1 : ∀ c, (hg o c).credit ≤ 1024
  sum : ∀ c, c < 4 → ((og i c).come.length : Int) + (og i c).room + (og i c).untold = 1024
  r0 : ∀ c, 0 ≤ (og i c).room
  u0 : ∀ c, 0 ≤ (og i c).untold
def mopen (o : List Hf) (c : Int) : Int := if c < 0 ∨ 4 ≤ c then 100 else if (hg o c.toNat).closed then 102 else 0

section
variable {o : List Hf} {ws us : List PA} {i : List Ot} {c : Nat}
theorem hg_eq (h : c < o.length) : o[c] = hg o c := by simp [hg, h]
theorem og_eq (h : c < i.length) : i[c] = og i c := by simp [og, h]
theorem hg_set {x : Hf} (h : c < o.length) : hg (o.set c x) c = x := by simp [hg, h]
theorem og_set {x : Ot} (h : c < i.length) : og (i.set c x) c = x := by simp [og, h]
theorem hg_ne {x : Hf} {d : Nat} (h : d ≠ c) : hg (o.set c x) d = hg o d := by simp [hg, List.getElem?_set, Ne.symm h]
theorem og_ne {x : Ot} {d : Nat} (h : d ≠ c) : og (i.set c x) d = og i d := by simp [og, List.getElem?_set, Ne.symm h]
theorem pg_set {p : PA} (h : c < ws.length) : pg (ws.set c p) c = p := by simp [pg, h]
theorem pg_eq (h : c < ws.length) : ws[c] = pg ws c := by simp [pg, h]
theorem m_o (k : Four o ws i us) {f : Nat} (hc : c < 4) (hf : f < 4) : (mcells o ws i us)[c * 4 + f]? = (hcell (hg o c) (pg ws c))[f]? := by
  rw [m_getO k hc hf, hg_eq, pg_eq]
theorem m_i (k : Four o ws i us) {f : Nat} (hc : c < 4) (hf : f < 4) : (mcells o ws i us)[16 + c * 4 + f]? = (ocell (og i c) (pg us c))[f]? := by
  rw [m_getI k hc hf, og_eq, pg_eq]
theorem get_of {L : List Value} {j : Nat} {v : Value} (h : L[j]? = some v) (hj : j < L.length) : L[j] = v := by
  rw [List.getElem?_eq_getElem hj] at h; exact Option.some.inj h
structure FO (o : List Hf) (ws : List PA) (i : List Ot) (us : List PA) (c : Nat) : Prop where
  b : c * 4 + 4 ≤ 16 ∧ c * 4 ≤ 31 ∧ c * 4 ≤ 30 ∧ c * 4 ≤ 29 ∧ c * 4 ≤ 28 ∧ 16 + c * 4 ≤ 31 ∧ 16 + c * 4 ≤ 30 ∧ 16 + c * 4 ≤ 29 ∧ 16 + c * 4 ≤ 28
  o0 : (mcells o ws i us)[c * 4]? = some (.slice (pg ws c).1 (hg o c).wait.length (pg ws c).2)
  o1 : (mcells o ws i us)[c * 4 + 1]? = some (.int .i64 (hg o c).credit)
  o2 : (mcells o ws i us)[c * 4 + 2]? = some (.bool (hg o c).closed)
  o3 : (mcells o ws i us)[c * 4 + 3]? = some (.bool (hg o c).told)
  i0 : (mcells o ws i us)[16 + c * 4]? = some (.slice (pg us c).1 (og i c).come.length (pg us c).2)
  i1 : (mcells o ws i us)[16 + c * 4 + 1]? = some (.int .i64 (og i c).room)
  i2 : (mcells o ws i us)[16 + c * 4 + 2]? = some (.int .i64 (og i c).untold)
  i3 : (mcells o ws i us)[16 + c * 4 + 3]? = some (.bool (og i c).ended)
theorem Four.fo (k : Four o ws i us) (hc : c < 4) : FO o ws i us c :=
  ⟨by omega, m_o k hc (f := 0) (by omega), m_o k hc (f := 1) (by omega), m_o k hc (f := 2) (by omega), m_o k hc (f := 3) (by omega), m_i k hc (f := 0) (by omega), m_i k hc (f := 1) (by omega), m_i k hc (f := 2) (by omega), m_i k hc (f := 3) (by omega)⟩
end
attribute [local irreducible] mcells
theorem open_calls {O : Old} {h : AHeap} {R : List Chunk} {b : Nat} {o : List Hf} {i : List Ot} (k : Own O h (mux b o i :: R)) (c : Int) : ACalls Try.prog 31 #[ptr b, .int .i64 c] h fun r h' => r = .int .i64 (mopen o c) ∧ h' = h := by
  refine ACalls.of_awp (args := [ptr b, .int .i64 c]) (n := 20) Try.func31 rfl rfl (by show 2 ≤ 20; omega) ?_
  obtain ⟨ws, us, k4, kt⟩ := mux_iff.1 k
  by_cases hc : c < 0
  · have e : mopen o c = 100 := by simp [mopen, hc]
    (repeat' first
      | refine AWP.seq ?_
      | refine AWP.block ?_
      | (refine AWP.skip ?_; try dsimp only [thn, inBlk])
      | (refine AWP.exit ?_; try simp only [thn, inBlk, if_true, reduceIte, Nat.reduceEqDiff])
      | (refine AWP.ret ?_; try dsimp only [thn, inBlk])
      | (refine AWP.condT ?_ ?_; (focus (simp [go_sem, hc]; done)))
      | (refine AWP.condF ?_ ?_; (focus (simp [go_sem, hc]; done)))
      | (apply AWP.rE; (focus (simp [go_sem, hc]; exact ⟨rfl, rfl⟩)); try dsimp only [thn, inBlk])
      | fail)
    simp [bodyQ, thn, inBlk, resA, resV, go_sem, e]
  by_cases hc1 : 4 ≤ c
  · have e : mopen o c = 100 := by simp [mopen, hc, hc1]
    (repeat' first
      | refine AWP.seq ?_
      | refine AWP.block ?_
      | (refine AWP.skip ?_; try dsimp only [thn, inBlk])
      | (refine AWP.exit ?_; try simp only [thn, inBlk, if_true, reduceIte, Nat.reduceEqDiff])
      | (refine AWP.ret ?_; try dsimp only [thn, inBlk])
      | (refine AWP.condT ?_ ?_; (focus (simp [go_sem, hc, hc1]; done)))
      | (refine AWP.condF ?_ ?_; (focus (simp [go_sem, hc, hc1]; done)))
      | (apply AWP.rE; (focus (simp [go_sem, hc, hc1]; exact ⟨rfl, rfl⟩)); try dsimp only [thn, inBlk])
      | fail)
    simp [bodyQ, thn, inBlk, resA, resV, go_sem, e]
  obtain ⟨n, rfl⟩ : ∃ n : Nat, c = n := ⟨c.toNat, by omega⟩
  have hn : n < 4 := by omega
  have hi : (n : Int) < 4 := by omega
  have f := k4.fo hn
  have fb := f.b
  have fl := m_len k4
  have c1 := kt.obj
  have e : mopen o n = if (hg o n).closed then 102 else 0 := by simp [mopen, hc, hc1]
  have g := f.o2
  cases hcl : (hg o n).closed <;> rw [hcl] at g e
  · (repeat' first
      | refine AWP.seq ?_
      | refine AWP.block ?_
      | (refine AWP.skip ?_; try dsimp only [thn, inBlk])
      | (refine AWP.exit ?_; try simp only [thn, inBlk, if_true, reduceIte, Nat.reduceEqDiff])
      | (refine AWP.ret ?_; try dsimp only [thn, inBlk])
      | (refine AWP.condT ?_ ?_; (focus (simp [go_sem, hc, hc1, hi, c1, fb, fl, g]; done)))
      | (refine AWP.condF ?_ ?_; (focus (simp [go_sem, hc, hc1, hi, c1, fb, fl, g]; done)))
      | (apply AWP.rE; (focus (simp [go_sem, hc, hc1, hi, c1, fb, fl, g]; exact ⟨rfl, rfl⟩)); try dsimp only [thn, inBlk])
      | fail)
    simp [bodyQ, thn, inBlk, resA, resV, go_sem, e]
  · (repeat' first
      | refine AWP.seq ?_
      | refine AWP.block ?_
      | (refine AWP.skip ?_; try dsimp only [thn, inBlk])
      | (refine AWP.exit ?_; try simp only [thn, inBlk, if_true, reduceIte, Nat.reduceEqDiff])
      | (refine AWP.ret ?_; try dsimp only [thn, inBlk])
      | (refine AWP.condT ?_ ?_; (focus (simp [go_sem, hc, hc1, hi, c1, fb, fl, g]; done)))
      | (refine AWP.condF ?_ ?_; (focus (simp [go_sem, hc, hc1, hi, c1, fb, fl, g]; done)))
      | (apply AWP.rE; (focus (simp [go_sem, hc, hc1, hi, c1, fb, fl, g]; exact ⟨rfl, rfl⟩)); try dsimp only [thn, inBlk])
      | fail)
    simp [bodyQ, thn, inBlk, resA, resV, go_sem, e]
end L18
