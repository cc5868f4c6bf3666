import Derived.Test.YtjjocbijmhmdkaaL18v
open Go Ab Go.Proofs
namespace L18
set_option autoImplicit false
set_option linter.unusedSimpArgs false
set_option linter.unusedVariables false

/-! ### The document's side walked -/
def dzj (j : Nat) : List Dc := (List.range 4).map fun c => { dz with cr := if c < j then 1024 else 0 }
def zp : List PP := [((none, 0), (none, 0)), ((none, 0), (none, 0)), ((none, 0), (none, 0)), ((none, 0), (none, 0))]
theorem dzfour (j : Nat) : Fr4 (dzj j) zp := ⟨rfl, rfl⟩
theorem tzD : tzero Try.prog 79 = some (.agg (dcells (dzj 0) zp).toArray) := by kernel_rfl
theorem buildD : buildP Try.prog 79 [] = some (.agg (dcells (dzj 0) zp).toArray) := by
  rw [buildP_nil]
  have h1' : constOk (.agg (dcells (dzj 0) zp).toArray) = true := by rfl
  simp only [tzD, tsz79, Try.underlying79]
  simp
  exact ⟨h1', rfl, rfl⟩
theorem dz_set {j : Nat} (h : j < 4) : (dzj j).set j { dg (dzj j) j with cr := 1024 } = dzj (j + 1) := by
  match j, h with
  | 0, _ => rfl
  | 1, _ => rfl
  | 2, _ => rfl
  | 3, _ => rfl
theorem dsz : gsubs dsub (dzj 4) zp = [star [ob 5 (.slice none 0 0) [], ob 5 (.slice none 0 0) []], star [ob 5 (.slice none 0 0) [], ob 5 (.slice none 0 0) []], star [ob 5 (.slice none 0 0) [], ob 5 (.slice none 0 0) []], star [ob 5 (.slice none 0 0) [], ob 5 (.slice none 0 0) []]] := rfl
theorem dnil2 {O : Old} {h : AHeap} {R : List Chunk} (k : Own O h R) : Own O h (star [ob 5 (.slice none 0 0) [], ob 5 (.slice none 0 0) []] :: R) := Own.star_iff.2 ((k.nil 5 1).nil 5 1)
theorem dzero_own {O : Old} {h : AHeap} {R : List Chunk} {C : Chunk} (k : Own O h (C :: R)) : Own O h (C :: (gsubs dsub (dzj 4) zp ++ R)) := by
  rw [dsz]
  have k9 := dnil2 (dnil2 (dnil2 (dnil2 k)))
  generalize star [ob 5 (.slice none 0 0) [], ob 5 (.slice none 0 0) []] = N at *
  exact k9.perm (List.perm_middle (l₁ := [N, N, N, N]))
attribute [local irreducible] dcells
theorem DI.new : DI (dzj 4) := by
  have e1 : ∀ c, DO (dg (dzj 4) c) := fun c => by
    match c with
    | 0 => exact ⟨by decide, by decide, by decide, by decide, by decide, by decide, by decide⟩
    | 1 => exact ⟨by decide, by decide, by decide, by decide, by decide, by decide, by decide⟩
    | 2 => exact ⟨by decide, by decide, by decide, by decide, by decide, by decide, by decide⟩
    | 3 => exact ⟨by decide, by decide, by decide, by decide, by decide, by decide, by decide⟩
    | c + 4 =>
      have : dg (dzj 4) (c + 4) = dz := rfl
      rw [this]
      exact ⟨by decide, by decide, by decide, by decide, by decide, by decide, by decide⟩
  exact ⟨rfl, fun e => (e1 e).s, fun e => (e1 e).w, fun e => (e1 e).r, fun e => (e1 e).sd, fun e => (e1 e).rm, fun e => (e1 e).cr0, fun e => (e1 e).cr1⟩
theorem dnew_pr : prO (dzj 4) = zo 4 ∧ prI (dzj 4) = zi 4 := ⟨rfl, rfl⟩
set_option maxHeartbeats 4000000 in
theorem dnew_calls {O : Old} {h : AHeap} {R : List Chunk} (k : Own O h R) : ACalls Try.prog 18 #[] h fun r h' => ∃ b, r = ptr b ∧ Own O h' (dmux b (dzj 4) :: R) := by
  refine ACalls.of_awp (args := []) (n := 16) Try.func18 rfl rfl (by show 0 ≤ 16; omega) ?_
  have k1 := k.push (drow (dzj 0) zp)
  have m0 := d_len (dzfour 0)
  (repeat' first
    | refine AWP.seq ?_
    | refine AWP.block ?_
    | (refine AWP.skip ?_; try dsimp only [thn, inBlk])
    | (refine AWP.exit ?_; try simp only [thn, inBlk, if_true, reduceIte, Nat.reduceEqDiff])
    | (refine AWP.ret ?_; try dsimp only [thn, inBlk])
    | (refine AWP.condT ?_ ?_; (focus (simp [go_sem, ↓buildD, m0]; done)))
    | (refine AWP.condF ?_ ?_; (focus (simp [go_sem, ↓buildD, m0]; done)))
    | (apply AWP.rE; (focus (simp [go_sem, ↓buildD, m0]; exact ⟨rfl, rfl⟩)); try dsimp only [thn, inBlk])
    | fail)
  refine AWP.loopR [1, 2] (fun m s h' => ∃ j, j ≤ 4 ∧ m = 4 - j ∧ s = ⟨16, [(1, ptr h.next), (2, .int .i64 (j : Nat))]⟩ ∧ Own O h' (cell h.next (drow (dzj j) zp) :: R)) ?_ ?_
  · exact ⟨_, 0, by omega, rfl, by simp [go_sem], k1⟩
  rintro m s h' ⟨j, hj, rfl, rfl, kt⟩
  by_cases hj2 : j < 4
  rotate_left
  · have hj3 : ¬ (j : Int) < 4 := by omega
    obtain rfl : j = 4 := by omega
    (repeat' first
      | refine AWP.seq ?_
      | refine AWP.block ?_
      | (refine AWP.skip ?_; try dsimp only [thn, inBlk])
      | (refine AWP.exit ?_; try simp only [thn, inBlk, if_true, reduceIte, Nat.reduceEqDiff])
      | (refine AWP.ret ?_; try dsimp only [thn, inBlk])
      | (refine AWP.condT ?_ ?_; (focus (simp [go_sem]; done)))
      | (refine AWP.condF ?_ ?_; (focus (simp [go_sem]; done)))
      | (apply AWP.rE; (focus (simp [go_sem]; exact ⟨rfl, rfl⟩)); try dsimp only [thn, inBlk])
      | fail)
    simp [bodyQ, thn, inBlk, resA, resV, go_sem]
    exact dmux_iff.2 ⟨zp, dzfour 4, dzero_own kt⟩
  have hj3 : (j : Int) < 4 := by omega
  obtain ⟨j1, hj1⟩ : ∃ j1, j1 = j + 1 := ⟨_, rfl⟩
  have wj : IntKind.i64.wrap ((j : Int) + 1) = (j1 : Int) := by rw [wI64 (by omega) (by omega)]; omega
  have c1 := kt.obj
  have l1 := d_len (dzfour j)
  have fb := ((dzfour j).fd hj2).b
  have e1 := sd7 (dzfour j) hj2 1024
  rw [dz_set hj2, ← hj1] at e1
  have k4 := kt.set (drow (dzj j1) zp)
  (repeat' first
    | refine AWP.seq ?_
    | refine AWP.block ?_
    | (refine AWP.skip ?_; try dsimp only [thn, inBlk])
    | (refine AWP.exit ?_; try simp only [thn, inBlk, if_true, reduceIte, Nat.reduceEqDiff])
    | (refine AWP.ret ?_; try dsimp only [thn, inBlk])
    | (refine AWP.condT ?_ ?_; (focus (simp [go_sem, hj3, c1, l1, fb, e1, wj]; done)))
    | (refine AWP.condF ?_ ?_; (focus (simp [go_sem, hj3, c1, l1, fb, e1, wj]; done)))
    | (apply AWP.rE; (focus (simp [go_sem, hj3, c1, l1, fb, e1, wj]; exact ⟨rfl, rfl⟩)); try dsimp only [thn, inBlk])
    | fail)
  exact ⟨4 - j1, by omega, j1, by omega, rfl, by simp [go_sem], k4⟩
theorem mopen_D {D : List Dc} (k : DI D) {n : Nat} (hn : n < 4) : mopen (prO D) n = if (dg D n).closed then 102 else 0 := by
  unfold mopen
  rw [if_neg (by omega), Int.toNat_natCast, prO_get (by rw [k.l]; exact hn)]; rfl
theorem dclose_calls {O : Old} {h : AHeap} {R : List Chunk} {b : Nat} {D : List Dc} (k : Own O h (dmux b D :: R)) (di : DI D) (c : Int) :
    ACalls Try.prog 20 #[ptr b, .int .i64 c] h fun r h' => r = .int .i64 (dclose D c).1 ∧ Own O h' (dmux b (dclose D c).2 :: R) := by
  refine ACalls.of_awp (args := [ptr b, .int .i64 c]) (n := 24) Try.func20 rfl rfl (by show 2 ≤ 24; omega) ?_
  by_cases h0 : c < 0
  · have e : dclose D c = (100, D) := by simp [dclose, mopen, h0]
    rw [e]
    (repeat' first
      | refine AWP.seq ?_
      | refine AWP.block ?_
      | (refine AWP.skip ?_; try dsimp only [thn, inBlk])
      | (refine AWP.exit ?_; try simp only [thn, inBlk, if_true, reduceIte, Nat.reduceEqDiff])
      | (refine AWP.ret ?_; try dsimp only [thn, inBlk])
      | (refine AWP.condT ?_ ?_; (focus (simp [go_sem, h0]; done)))
      | (refine AWP.condF ?_ ?_; (focus (simp [go_sem, h0]; done)))
      | (apply AWP.rE; (focus (simp [go_sem, h0]; exact ⟨rfl, rfl⟩)); try dsimp only [thn, inBlk])
      | fail)
    simp [bodyQ, thn, inBlk, resA, resV, go_sem]
    exact k
  by_cases h1 : 3 < c
  · have h2 : 4 ≤ c := by omega
    have e : dclose D c = (100, D) := by simp [dclose, mopen, h0, h2]
    rw [e]
    (repeat' first
      | refine AWP.seq ?_
      | refine AWP.block ?_
      | (refine AWP.skip ?_; try dsimp only [thn, inBlk])
      | (refine AWP.exit ?_; try simp only [thn, inBlk, if_true, reduceIte, Nat.reduceEqDiff])
      | (refine AWP.ret ?_; try dsimp only [thn, inBlk])
      | (refine AWP.condT ?_ ?_; (focus (simp [go_sem, h0, h1]; done)))
      | (refine AWP.condF ?_ ?_; (focus (simp [go_sem, h0, h1]; done)))
      | (apply AWP.rE; (focus (simp [go_sem, h0, h1]; exact ⟨rfl, rfl⟩)); try dsimp only [thn, inBlk])
      | fail)
    simp [bodyQ, thn, inBlk, resA, resV, go_sem]
    exact k
  obtain ⟨n, rfl⟩ : ∃ n : Nat, c = n := ⟨c.toNat, by omega⟩
  have hn : n < 4 := by omega
  have hi : (n : Int) < 4 := by omega
  obtain ⟨ps, k4, kt⟩ := dmux_iff.1 k
  have f := k4.fd hn
  have fb := f.b
  have fl := d_len k4
  have c1 := kt.obj
  have g := f.d2
  cases hcl : (dg D n).closed <;> rw [hcl] at g
  · have e : dclose D n = (0, D.set n { dg D n with closed := true }) := by simp [dclose, mopen_D di hn, hcl]
    rw [e]
    have e4 := sd2 k4 hn true
    have k5 := kt.set (drow (D.set n { dg D n with closed := true }) ps)
    (repeat' first
      | refine AWP.seq ?_
      | refine AWP.block ?_
      | (refine AWP.skip ?_; try dsimp only [thn, inBlk])
      | (refine AWP.exit ?_; try simp only [thn, inBlk, if_true, reduceIte, Nat.reduceEqDiff])
      | (refine AWP.ret ?_; try dsimp only [thn, inBlk])
      | (refine AWP.condT ?_ ?_; (focus (simp [go_sem, h0, h1, hi, c1, fl, fb, g, e4]; done)))
      | (refine AWP.condF ?_ ?_; (focus (simp [go_sem, h0, h1, hi, c1, fl, fb, g, e4]; done)))
      | (apply AWP.rE; (focus (simp [go_sem, h0, h1, hi, c1, fl, fb, g, e4]; exact ⟨rfl, rfl⟩)); try dsimp only [thn, inBlk])
      | fail)
    simp [bodyQ, thn, inBlk, resA, resV, go_sem]
    exact dmux_in' hn k4 _ rfl rfl k5
  · have e : dclose D n = (102, D) := by simp [dclose, mopen_D di hn, hcl]
    rw [e]
    (repeat' first
      | refine AWP.seq ?_
      | refine AWP.block ?_
      | (refine AWP.skip ?_; try dsimp only [thn, inBlk])
      | (refine AWP.exit ?_; try simp only [thn, inBlk, if_true, reduceIte, Nat.reduceEqDiff])
      | (refine AWP.ret ?_; try dsimp only [thn, inBlk])
      | (refine AWP.condT ?_ ?_; (focus (simp [go_sem, h0, h1, hi, c1, fl, fb, g]; done)))
      | (refine AWP.condF ?_ ?_; (focus (simp [go_sem, h0, h1, hi, c1, fl, fb, g]; done)))
      | (apply AWP.rE; (focus (simp [go_sem, h0, h1, hi, c1, fl, fb, g]; exact ⟨rfl, rfl⟩)); try dsimp only [thn, inBlk])
      | fail)
    simp [bodyQ, thn, inBlk, resA, resV, go_sem]
    exact k
theorem dended_calls {O : Old} {h : AHeap} {R : List Chunk} {b : Nat} {D : List Dc} (k : Own O h (dmux b D :: R)) (c : Int) :
    ACalls Try.prog 27 #[ptr b, .int .i64 c] h fun r h' => r = .bool (dended D c) ∧ h' = h := by
  refine ACalls.of_awp (args := [ptr b, .int .i64 c]) (n := 38) Try.func27 rfl rfl (by show 2 ≤ 38; omega) ?_
  by_cases h0 : 0 ≤ c
  rotate_left
  · have e : dended D c = false := by simp [dended, h0]
    rw [e]
    (repeat' first
      | refine AWP.seq ?_
      | refine AWP.block ?_
      | (refine AWP.skip ?_; try dsimp only [thn, inBlk])
      | (refine AWP.exit ?_; try simp only [thn, inBlk, if_true, reduceIte, Nat.reduceEqDiff])
      | (refine AWP.ret ?_; try dsimp only [thn, inBlk])
      | (refine AWP.condT ?_ ?_; (focus (simp [go_sem, h0]; done)))
      | (refine AWP.condF ?_ ?_; (focus (simp [go_sem, h0]; done)))
      | (apply AWP.rE; (focus (simp [go_sem, h0]; exact ⟨rfl, rfl⟩)); try dsimp only [thn, inBlk])
      | (apply AWP.dE hmix [.n 0 [1], .n 1 [5], .n 2 [6], .n 3 [1, 7], .n 4 [8, 7], .n 5 [7, 9], .n 6 [10], .n 7 [0, 11], .n 8 [1, 11], .n 9 [12, 11], .n 10 [14, 11], .n 11 [15, 13, 11], .n 12 [16, 11], .n 13 [17, 11], .n 14 [11, 18], .n 15 [19], .n 16 [0, 20], .n 17 [1, 20], .n 18 [21, 20], .n 19 [23, 20], .n 20 [24, 22, 20], .n 21 [25, 20], .n 22 [26, 20], .n 23 [0, 20], .n 24 [1, 20], .n 25 [28, 20], .n 26 [30, 20], .n 27 [31, 29, 20], .n 28 [32, 20], .n 29 [33, 20], .n 30 [34, 20], .n 31 [27, 35, 20], .n 32 [20, 36], .n 33 [37]]; (focus kernel_rfl); (focus (simp [go_sem, h0]; exact ⟨rfl, rfl⟩)); try dsimp only [thn, inBlk])
      | fail)
    simp [bodyQ, thn, inBlk, resA, resV, go_sem]
  by_cases h1 : c ≤ 3
  rotate_left
  · have e : dended D c = false := by simp [dended]; omega
    rw [e]
    (repeat' first
      | refine AWP.seq ?_
      | refine AWP.block ?_
      | (refine AWP.skip ?_; try dsimp only [thn, inBlk])
      | (refine AWP.exit ?_; try simp only [thn, inBlk, if_true, reduceIte, Nat.reduceEqDiff])
      | (refine AWP.ret ?_; try dsimp only [thn, inBlk])
      | (refine AWP.condT ?_ ?_; (focus (simp [go_sem, h0, h1]; done)))
      | (refine AWP.condF ?_ ?_; (focus (simp [go_sem, h0, h1]; done)))
      | (apply AWP.rE; (focus (simp [go_sem, h0, h1]; exact ⟨rfl, rfl⟩)); try dsimp only [thn, inBlk])
      | (apply AWP.dE hmix [.n 0 [1], .n 1 [5], .n 2 [6], .n 3 [1, 7], .n 4 [8, 7], .n 5 [7, 9], .n 6 [10], .n 7 [0, 11], .n 8 [1, 11], .n 9 [12, 11], .n 10 [14, 11], .n 11 [15, 13, 11], .n 12 [16, 11], .n 13 [17, 11], .n 14 [11, 18], .n 15 [19], .n 16 [0, 20], .n 17 [1, 20], .n 18 [21, 20], .n 19 [23, 20], .n 20 [24, 22, 20], .n 21 [25, 20], .n 22 [26, 20], .n 23 [0, 20], .n 24 [1, 20], .n 25 [28, 20], .n 26 [30, 20], .n 27 [31, 29, 20], .n 28 [32, 20], .n 29 [33, 20], .n 30 [34, 20], .n 31 [27, 35, 20], .n 32 [20, 36], .n 33 [37]]; (focus kernel_rfl); (focus (simp [go_sem, h0, h1]; exact ⟨rfl, rfl⟩)); try dsimp only [thn, inBlk])
      | fail)
    simp [bodyQ, thn, inBlk, resA, resV, go_sem]
  obtain ⟨n, rfl⟩ : ∃ n : Nat, c = n := ⟨c.toNat, by omega⟩
  have hn : n < 4 := by omega
  have hi : (n : Int) < 4 := by omega
  obtain ⟨ps, k4, kt⟩ := dmux_iff.1 k
  have f := k4.fd hn
  have fb := f.b
  have fl := d_len k4
  have c1 := kt.obj
  have g0 := f.d4
  have g1 := f.d5
  have g3 := f.d8
  have e : dended D n = ((dg D n).ended && decide ((dg D n).r = (dg D n).c.length)) := by simp [dended, hi]
  rw [e]
  cases he : (dg D n).ended <;> rw [he] at g3
  · (repeat' first
      | refine AWP.seq ?_
      | refine AWP.block ?_
      | (refine AWP.skip ?_; try dsimp only [thn, inBlk])
      | (refine AWP.exit ?_; try simp only [thn, inBlk, if_true, reduceIte, Nat.reduceEqDiff])
      | (refine AWP.ret ?_; try dsimp only [thn, inBlk])
      | (refine AWP.condT ?_ ?_; (focus (simp [go_sem, h0, h1, hi, c1, fb, fl, g0, g1, g3]; done)))
      | (refine AWP.condF ?_ ?_; (focus (simp [go_sem, h0, h1, hi, c1, fb, fl, g0, g1, g3]; done)))
      | (apply AWP.rE; (focus (simp [go_sem, h0, h1, hi, c1, fb, fl, g0, g1, g3]; exact ⟨rfl, rfl⟩)); try dsimp only [thn, inBlk])
      | (apply AWP.dE hmix [.n 0 [1], .n 1 [5], .n 2 [6], .n 3 [1, 7], .n 4 [8, 7], .n 5 [7, 9], .n 6 [10], .n 7 [0, 11], .n 8 [1, 11], .n 9 [12, 11], .n 10 [14, 11], .n 11 [15, 13, 11], .n 12 [16, 11], .n 13 [17, 11], .n 14 [11, 18], .n 15 [19], .n 16 [0, 20], .n 17 [1, 20], .n 18 [21, 20], .n 19 [23, 20], .n 20 [24, 22, 20], .n 21 [25, 20], .n 22 [26, 20], .n 23 [0, 20], .n 24 [1, 20], .n 25 [28, 20], .n 26 [30, 20], .n 27 [31, 29, 20], .n 28 [32, 20], .n 29 [33, 20], .n 30 [34, 20], .n 31 [27, 35, 20], .n 32 [20, 36], .n 33 [37]]; (focus kernel_rfl); (focus (simp [go_sem, h0, h1, hi, c1, fb, fl, g0, g1, g3]; exact ⟨rfl, rfl⟩)); try dsimp only [thn, inBlk])
      | fail)
    simp [bodyQ, thn, inBlk, resA, resV, go_sem]
  by_cases hr : (dg D n).r = (dg D n).c.length
  · have hr' : (((dg D n).r : Int) == ((dg D n).c.length : Int)) = true := by simp [hr]
    (repeat' first
      | refine AWP.seq ?_
      | refine AWP.block ?_
      | (refine AWP.skip ?_; try dsimp only [thn, inBlk])
      | (refine AWP.exit ?_; try simp only [thn, inBlk, if_true, reduceIte, Nat.reduceEqDiff])
      | (refine AWP.ret ?_; try dsimp only [thn, inBlk])
      | (refine AWP.condT ?_ ?_; (focus (simp [go_sem, h0, h1, hi, c1, fb, fl, g0, g1, g3, hr']; done)))
      | (refine AWP.condF ?_ ?_; (focus (simp [go_sem, h0, h1, hi, c1, fb, fl, g0, g1, g3, hr']; done)))
      | (apply AWP.rE; (focus (simp [go_sem, h0, h1, hi, c1, fb, fl, g0, g1, g3, hr']; exact ⟨rfl, rfl⟩)); try dsimp only [thn, inBlk])
      | (apply AWP.dE hmix [.n 0 [1], .n 1 [5], .n 2 [6], .n 3 [1, 7], .n 4 [8, 7], .n 5 [7, 9], .n 6 [10], .n 7 [0, 11], .n 8 [1, 11], .n 9 [12, 11], .n 10 [14, 11], .n 11 [15, 13, 11], .n 12 [16, 11], .n 13 [17, 11], .n 14 [11, 18], .n 15 [19], .n 16 [0, 20], .n 17 [1, 20], .n 18 [21, 20], .n 19 [23, 20], .n 20 [24, 22, 20], .n 21 [25, 20], .n 22 [26, 20], .n 23 [0, 20], .n 24 [1, 20], .n 25 [28, 20], .n 26 [30, 20], .n 27 [31, 29, 20], .n 28 [32, 20], .n 29 [33, 20], .n 30 [34, 20], .n 31 [27, 35, 20], .n 32 [20, 36], .n 33 [37]]; (focus kernel_rfl); (focus (simp [go_sem, h0, h1, hi, c1, fb, fl, g0, g1, g3, hr']; exact ⟨rfl, rfl⟩)); try dsimp only [thn, inBlk])
      | fail)
    simp [bodyQ, thn, inBlk, resA, resV, go_sem, hr]
  · have hr' : (((dg D n).r : Int) == ((dg D n).c.length : Int)) = false := by simp; omega
    (repeat' first
      | refine AWP.seq ?_
      | refine AWP.block ?_
      | (refine AWP.skip ?_; try dsimp only [thn, inBlk])
      | (refine AWP.exit ?_; try simp only [thn, inBlk, if_true, reduceIte, Nat.reduceEqDiff])
      | (refine AWP.ret ?_; try dsimp only [thn, inBlk])
      | (refine AWP.condT ?_ ?_; (focus (simp [go_sem, h0, h1, hi, c1, fb, fl, g0, g1, g3, hr']; done)))
      | (refine AWP.condF ?_ ?_; (focus (simp [go_sem, h0, h1, hi, c1, fb, fl, g0, g1, g3, hr']; done)))
      | (apply AWP.rE; (focus (simp [go_sem, h0, h1, hi, c1, fb, fl, g0, g1, g3, hr']; exact ⟨rfl, rfl⟩)); try dsimp only [thn, inBlk])
      | (apply AWP.dE hmix [.n 0 [1], .n 1 [5], .n 2 [6], .n 3 [1, 7], .n 4 [8, 7], .n 5 [7, 9], .n 6 [10], .n 7 [0, 11], .n 8 [1, 11], .n 9 [12, 11], .n 10 [14, 11], .n 11 [15, 13, 11], .n 12 [16, 11], .n 13 [17, 11], .n 14 [11, 18], .n 15 [19], .n 16 [0, 20], .n 17 [1, 20], .n 18 [21, 20], .n 19 [23, 20], .n 20 [24, 22, 20], .n 21 [25, 20], .n 22 [26, 20], .n 23 [0, 20], .n 24 [1, 20], .n 25 [28, 20], .n 26 [30, 20], .n 27 [31, 29, 20], .n 28 [32, 20], .n 29 [33, 20], .n 30 [34, 20], .n 31 [27, 35, 20], .n 32 [20, 36], .n 33 [37]]; (focus kernel_rfl); (focus (simp [go_sem, h0, h1, hi, c1, fb, fl, g0, g1, g3, hr']; exact ⟨rfl, rfl⟩)); try dsimp only [thn, inBlk])
      | fail)
    simp [bodyQ, thn, inBlk, resA, resV, go_sem, hr]
end L18
