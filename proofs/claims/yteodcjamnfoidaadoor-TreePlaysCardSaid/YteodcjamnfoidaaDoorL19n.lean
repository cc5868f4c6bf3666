import Derived.Test.YteodcjamnfoidaaDoorL19m
open Go Ab Go.Proofs
namespace L19
set_option autoImplicit false
set_option linter.unusedSimpArgs false
set_option linter.unusedVariables false

def annB : List UInt8 := [97, 110, 110]
def bobB : List UInt8 := [98, 111, 98]
def usersB : List UInt8 := [47, 117, 115, 101, 114, 115]
def usersxB : List UInt8 := [47, 117, 115, 101, 114, 115, 47, 120]
def dB : List UInt8 := [47, 100]
def dfB : List UInt8 := [47, 100, 47, 102]
set_option maxRecDepth 100000 in
theorem sp1 : mkR [top] rootB usersB 61 = (0, [top, (usersB, ⟨true, rootB, 61, []⟩)]) := by kernel_rfl
set_option maxRecDepth 100000 in
theorem sp2 : mkR [top, (usersB, ⟨true, rootB, 61, []⟩)] annB usersxB 61 = (114, [top, (usersB, ⟨true, rootB, 61, []⟩)]) := by kernel_rfl
set_option maxRecDepth 100000 in
theorem sp3 : gvR [top, (usersB, ⟨true, rootB, 61, []⟩)] rootB usersB annB = (0, [top, (usersB, ⟨true, annB, 61, []⟩)]) := by kernel_rfl
set_option maxRecDepth 100000 in
theorem sp4 : (mkR [top, (usersB, ⟨true, annB, 61, []⟩)] annB usersxB 61).1 = 0 := by kernel_rfl

theorem tk1 : TK [top, (usersB, ⟨true, rootB, 61, []⟩)] := by
  have := TK.top.mkd (who := rootB) (p := usersB) (z := 61) (by decide) (by decide)
  rw [sp1] at this; exact this
theorem tk3 : TK [top, (usersB, ⟨true, annB, 61, []⟩)] := by
  have := tk1.gv (who := rootB) (p := usersB) (o := annB) (by decide)
  rw [sp3] at this; exact this
set_option maxHeartbeats 4000000 in
theorem speaks_calls {O : Old} {h : AHeap} {R : List Chunk} (k : Own O h R) : ACalls Tryd.prog 9 #[] h fun v h' => v = .bool true ∧ Own O h' R := by
  refine ACalls.of_awp (args := []) (n := 31) Tryd.func9 rfl rfl (by show 0 ≤ 31; omega) ?_
  (repeat' first
    | refine AWP.seq ?_
    | refine AWP.block ?_
    | (refine AWP.skip ?_; try dsimp only [thn, inBlk])
    | (refine AWP.exit ?_; try simp only [thn, inBlk, if_true, reduceIte, Nat.reduceEqDiff])
    | (refine AWP.ret ?_; try dsimp only [thn, inBlk])
    | (refine AWP.condT ?_ ?_; (focus (simp [go_sem]; done)))
    | (refine AWP.condF ?_ ?_; (focus (simp [go_sem]; done)))
    | (apply AWP.rE; (focus (simp [go_sem]; exact ⟨rfl, rfl⟩)); try dsimp only [thn, inBlk])
    | fail)
  refine AWP.callE (by simp [go_sem]; exact ⟨rfl, rfl, rfl, rfl, rfl⟩) (by kernel_rfl) ?_
  refine (new_calls k).mono ?_
  rintro r h1 ⟨i, rfl, k1⟩
  refine awpL_restE (by simp [go_sem]; exact ⟨rfl, rfl⟩) ?_; try dsimp only [thn, inBlk]
  (repeat' first
    | refine AWP.seq ?_
    | refine AWP.block ?_
    | (refine AWP.skip ?_; try dsimp only [thn, inBlk])
    | (refine AWP.exit ?_; try simp only [thn, inBlk, if_true, reduceIte, Nat.reduceEqDiff])
    | (refine AWP.ret ?_; try dsimp only [thn, inBlk])
    | (refine AWP.condT ?_ ?_; (focus (simp [go_sem]; done)))
    | (refine AWP.condF ?_ ?_; (focus (simp [go_sem]; done)))
    | (apply AWP.rE; (focus (simp [go_sem]; exact ⟨rfl, rfl⟩)); try dsimp only [thn, inBlk])
    | fail)
  refine AWP.callE (by simp [go_sem]; exact ⟨rfl, rfl, rfl, rfl, rfl⟩) (by kernel_rfl) ?_
  refine (mkdir_calls (who := rootB) (p := usersB) (z := 61) TK.top k1 (by decide)).mono ?_
  rintro r h2 ⟨rfl, k2⟩
  rw [sp1] at k2 ⊢
  refine awpL_restE (by simp [go_sem]; exact ⟨rfl, rfl⟩) ?_; try dsimp only [thn, inBlk]
  (repeat' first
    | refine AWP.seq ?_
    | refine AWP.block ?_
    | (refine AWP.skip ?_; try dsimp only [thn, inBlk])
    | (refine AWP.exit ?_; try simp only [thn, inBlk, if_true, reduceIte, Nat.reduceEqDiff])
    | (refine AWP.ret ?_; try dsimp only [thn, inBlk])
    | (refine AWP.condT ?_ ?_; (focus (simp [go_sem]; done)))
    | (refine AWP.condF ?_ ?_; (focus (simp [go_sem]; done)))
    | (apply AWP.rE; (focus (simp [go_sem]; exact ⟨rfl, rfl⟩)); try dsimp only [thn, inBlk])
    | fail)
  refine AWP.callE (by simp [go_sem]; exact ⟨rfl, rfl, rfl, rfl, rfl⟩) (by kernel_rfl) ?_
  refine (mkdir_calls (who := annB) (p := usersxB) (z := 61) tk1 k2 (by decide)).mono ?_
  rintro r h3 ⟨rfl, k3⟩
  rw [sp2] at k3 ⊢
  refine awpL_restE (by simp [go_sem]; exact ⟨rfl, rfl⟩) ?_; try dsimp only [thn, inBlk]
  (repeat' first
    | refine AWP.seq ?_
    | refine AWP.block ?_
    | (refine AWP.skip ?_; try dsimp only [thn, inBlk])
    | (refine AWP.exit ?_; try simp only [thn, inBlk, if_true, reduceIte, Nat.reduceEqDiff])
    | (refine AWP.ret ?_; try dsimp only [thn, inBlk])
    | (refine AWP.condT ?_ ?_; (focus (simp [go_sem]; done)))
    | (refine AWP.condF ?_ ?_; (focus (simp [go_sem]; done)))
    | (apply AWP.rE; (focus (simp [go_sem]; exact ⟨rfl, rfl⟩)); try dsimp only [thn, inBlk])
    | fail)
  refine AWP.callE (by simp [go_sem]; exact ⟨rfl, rfl, rfl, rfl, rfl⟩) (by kernel_rfl) ?_
  refine (give_calls (who := rootB) (p := usersB) (o := annB) tk1 k3 (by decide)).mono ?_
  rintro r h4 ⟨rfl, k4⟩
  rw [sp3] at k4 ⊢
  refine awpL_restE (by simp [go_sem]; exact ⟨rfl, rfl⟩) ?_; try dsimp only [thn, inBlk]
  (repeat' first
    | refine AWP.seq ?_
    | refine AWP.block ?_
    | (refine AWP.skip ?_; try dsimp only [thn, inBlk])
    | (refine AWP.exit ?_; try simp only [thn, inBlk, if_true, reduceIte, Nat.reduceEqDiff])
    | (refine AWP.ret ?_; try dsimp only [thn, inBlk])
    | (refine AWP.condT ?_ ?_; (focus (simp [go_sem]; done)))
    | (refine AWP.condF ?_ ?_; (focus (simp [go_sem]; done)))
    | (apply AWP.rE; (focus (simp [go_sem]; exact ⟨rfl, rfl⟩)); try dsimp only [thn, inBlk])
    | fail)
  refine AWP.callE (by simp [go_sem]; exact ⟨rfl, rfl, rfl, rfl, rfl⟩) (by kernel_rfl) ?_
  refine (mkdir_calls (who := annB) (p := usersxB) (z := 61) tk3 k4 (by decide)).mono ?_
  rintro r h5 ⟨rfl, k5⟩
  rw [sp4]
  refine awpL_restE (by simp [go_sem]; exact ⟨rfl, rfl⟩) ?_; try dsimp only [thn, inBlk]
  (repeat' first
    | refine AWP.seq ?_
    | refine AWP.block ?_
    | (refine AWP.skip ?_; try dsimp only [thn, inBlk])
    | (refine AWP.exit ?_; try simp only [thn, inBlk, if_true, reduceIte, Nat.reduceEqDiff])
    | (refine AWP.ret ?_; try dsimp only [thn, inBlk])
    | (refine AWP.condT ?_ ?_; (focus (simp [go_sem]; done)))
    | (refine AWP.condF ?_ ?_; (focus (simp [go_sem]; done)))
    | (apply AWP.rE; (focus (simp [go_sem]; exact ⟨rfl, rfl⟩)); try dsimp only [thn, inBlk])
    | fail)
  simp [bodyQ, thn, inBlk, resA, resV, go_sem]
  exact k5.tail

/-! ### A directory, and a file in it -/
abbrev T1 : TL := [top, (dB, ⟨true, rootB, 63, []⟩)]
set_option maxRecDepth 100000 in
theorem db1 : mkR [top] rootB dB 63 = (0, T1) := by kernel_rfl
theorem tkT1 : TK T1 := by
  have := TK.top.mkd (who := rootB) (p := dB) (z := 63) (by decide) (by decide)
  rw [db1] at this; exact this
abbrev T2 (M : Nat) (d : List UInt8) : TL := [top, (dB, ⟨true, rootB, 63, []⟩), (dfB, ⟨false, annB, M, d⟩)]
set_option maxRecDepth 100000 in
theorem come1 : comeE T1 annB dfB = 0 := by kernel_rfl
set_option maxRecDepth 100000 in
theorem get1 : get T1 dfB = none := by kernel_rfl
theorem may61 (who : List UInt8) : may who top.2 1 = true := by
  unfold may
  by_cases h : who = rootB
  · simp [h]
  · have : ¬ who = top.2.own := h
    rw [if_neg this]; simp [top]
theorem may63 (who : List UInt8) : may who ⟨true, rootB, 63, []⟩ 1 = true := by
  unfold may
  by_cases h : who = rootB
  · simp [h]
  · rw [if_neg h]; simp
theorem come2a (M : Nat) (d who : List UInt8) : comeE (T2 M d) who dfB = (if may who top.2 1 = false then 114 else if may who ⟨true, rootB, 63, []⟩ 1 = false then 114 else 0) := rfl
theorem come2 (M : Nat) (d who : List UInt8) : comeE (T2 M d) who dfB = 0 := by
  rw [come2a, may61, may63]; rfl
theorem get2 (M : Nat) (d : List UInt8) : get (T2 M d) dfB = some ⟨false, annB, M, d⟩ := rfl
set_option maxRecDepth 100000 in
theorem put1 : putE T1 dfB ⟨false, annB, 0, []⟩ = 0 := by kernel_rfl
theorem putE_own (T : TL) (p : List UInt8) (n n' : Nd) (h : n.own = n'.own) : putE T p n = putE T p n' := by
  unfold putE; rw [h]
theorem wr1 (d : List UInt8) (z : Int) : wrR T1 annB dfB d z = if rightB z = false then (1, T1) else if 1000 < d.length then (23, T1) else (0, T2 z.toNat d) := by
  unfold wrR
  rw [if_pos come1, get1]
  have e : putE T1 dfB ⟨false, annB, z.toNat, d⟩ = 0 := (putE_own _ _ _ _ rfl).trans put1
  have e2 : putT T1 dfB ⟨false, annB, z.toNat, d⟩ = T2 z.toNat d := by unfold putT; rw [if_pos e]; rfl
  dsimp only
  rw [e, e2]
theorem find2 (M : Nat) (d who : List UInt8) : findE (T2 M d) who dfB = 0 := by
  unfold findE; rw [if_pos (come2 M d who), get2]; rfl
theorem rd2 (M : Nat) (d who : List UInt8) : rdR (T2 M d) who dfB = if may who ⟨false, annB, M, d⟩ 4 = false then (114, []) else (0, d) := by
  unfold rdR
  rw [if_pos (find2 M d who), get2]; rfl
end L19
