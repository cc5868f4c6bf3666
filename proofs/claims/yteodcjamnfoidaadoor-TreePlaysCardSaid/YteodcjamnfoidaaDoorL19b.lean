import Derived.Test.YteodcjamnfoidaaDoorL19a
open Go Ab Go.Proofs
namespace L19
set_option autoImplicit false
set_option linter.unusedSimpArgs false
set_option linter.unusedVariables false

/-! ### strings.CutPrefix, LastIndexByte -/
def cut47 : List UInt8 → List UInt8 × Bool
  | [] => ([], false)
  | c :: r => if c = 47 then (r, true) else (c :: r, false)
theorem hasprefix_calls {h : AHeap} {l : List UInt8} :
    ACalls Tryd.prog 71 #[tx l, .string ⟨#[47]⟩] h fun r h' => r = .bool (cut47 l).2 ∧ h' = h := by
  refine ACalls.of_awp (args := [tx l, .string ⟨#[47]⟩]) (n := 18) Tryd.func71 rfl rfl (by show 2 ≤ 18; omega) ?_
  rcases l with _ | ⟨c, l⟩
  · (repeat' first
      | refine AWP.seq ?_
      | refine AWP.block ?_
      | (refine AWP.skip ?_; try dsimp only [thn, inBlk])
      | (refine AWP.exit ?_; try simp only [thn, inBlk, if_true, reduceIte, Nat.reduceEqDiff])
      | (refine AWP.ret ?_; try dsimp only [thn, inBlk])
      | (refine AWP.condT ?_ ?_; (focus (simp [go_sem]; done)))
      | (refine AWP.condF ?_ ?_; (focus (simp [go_sem]; done)))
      | (apply AWP.rE; (focus (simp [go_sem]; exact ⟨rfl, rfl⟩)); try dsimp only [thn, inBlk])
      | fail)
    simp [bodyQ, thn, inBlk, resA, resV, go_sem]
    rfl
  have hl : (1 : Int) ≤ (c :: l).length := by simp; omega
  have s1 : sliceR Tryd.prog h 9 (tx (c :: l)) none (some (.int .i64 1)) none = some (tx [c]) := str_slice (h := h) Tryd.underlying9 (l := c :: l) (lo := 0) (hi := 1) (a := none) (u := some (.int .i64 1)) (by omega) (by simp) (.inl ⟨rfl, rfl⟩) (.inr ⟨.i64, rfl⟩)
  obtain ⟨L, hL⟩ : ∃ L, L = c :: l := ⟨_, rfl⟩
  rw [← hL] at hl s1 ⊢
  have e : (cut47 L).2 = ([c] == [47]) := by
    rw [hL, cut47]
    by_cases hc : c = 47
    · simp [hc]
    · simp [hc]
  (repeat' first
    | refine AWP.seq ?_
    | refine AWP.block ?_
    | (refine AWP.skip ?_; try dsimp only [thn, inBlk])
    | (refine AWP.exit ?_; try simp only [thn, inBlk, if_true, reduceIte, Nat.reduceEqDiff])
    | (refine AWP.ret ?_; try dsimp only [thn, inBlk])
    | (refine AWP.condT ?_ ?_; (focus (simp [go_sem, hl, s1]; done)))
    | (refine AWP.condF ?_ ?_; (focus (simp [go_sem, hl, s1]; done)))
    | (apply AWP.rE; (focus (simp [go_sem, hl, s1]; exact ⟨rfl, rfl⟩)); try dsimp only [thn, inBlk])
    | fail)
  simp [bodyQ, thn, inBlk, resA, resV, go_sem, e]
theorem cutprefix0_calls {h : AHeap} {l : List UInt8} :
    ACalls Tryd.prog 62 #[tx l, .string ⟨#[47]⟩] h fun r h' => r = .tuple #[tx (cut47 l).1, .bool (cut47 l).2] ∧ h' = h := by
  refine ACalls.of_awp (args := [tx l, .string ⟨#[47]⟩]) (n := 15) Tryd.func62 rfl rfl (by show 2 ≤ 15; omega) ?_
  (repeat' first
    | refine AWP.seq ?_
    | refine AWP.block ?_
    | (refine AWP.skip ?_; try dsimp only [thn, inBlk])
    | (refine AWP.exit ?_; try simp only [thn, inBlk, if_true, reduceIte, Nat.reduceEqDiff])
    | (refine AWP.ret ?_; try dsimp only [thn, inBlk])
    | (refine AWP.condT ?_ ?_; (focus (simp [go_sem]; done)))
    | (refine AWP.condF ?_ ?_; (focus (simp [go_sem]; done)))
    | (apply AWP.rE; (focus (simp [go_sem]; exact ⟨rfl, rfl⟩)); try dsimp only [thn, inBlk])
    | fail)
  refine AWP.callE (by simp [go_sem]; exact ⟨rfl, rfl, rfl, rfl, rfl⟩) (by kernel_rfl) ?_
  refine hasprefix_calls.mono ?_
  rintro r h' ⟨rfl, rfl⟩
  refine awpL_restE (by simp [go_sem]; exact ⟨rfl, rfl⟩) ?_; try dsimp only [thn, inBlk]
  by_cases hc : ∃ r, l = 47 :: r
  · obtain ⟨r, rfl⟩ := hc
    have e : cut47 (47 :: r) = (r, true) := by simp [cut47]
    have s1 : sliceR Tryd.prog h' 9 (tx (47 :: r)) (some (.int .i64 1)) none none = some (tx r) := by
      have := str_slice (P := Tryd.prog) (h := h') Tryd.underlying9 (l := 47 :: r) (lo := 1) (hi := (47 :: r).length) (a := some (.int .i64 1)) (u := none) (by simp) (Nat.le_refl _) (.inr ⟨.i64, rfl⟩) (.inl ⟨rfl, rfl⟩)
      rw [List.take_length] at this
      exact this
    rw [e]
    obtain ⟨L, hL⟩ : ∃ L, L = (47 : UInt8) :: r := ⟨_, rfl⟩
    rw [← hL] at s1 ⊢
    (repeat' first
      | refine AWP.seq ?_
      | refine AWP.block ?_
      | (refine AWP.skip ?_; try dsimp only [thn, inBlk])
      | (refine AWP.exit ?_; try simp only [thn, inBlk, if_true, reduceIte, Nat.reduceEqDiff])
      | (refine AWP.ret ?_; try dsimp only [thn, inBlk])
      | (refine AWP.condT ?_ ?_; (focus (simp [go_sem, s1]; done)))
      | (refine AWP.condF ?_ ?_; (focus (simp [go_sem, s1]; done)))
      | (apply AWP.rE; (focus (simp [go_sem, s1]; exact ⟨rfl, rfl⟩)); try dsimp only [thn, inBlk])
      | fail)
    simp [bodyQ, thn, inBlk, resA, resV, go_sem]
  · have e : cut47 l = (l, false) := by
      rcases l with _ | ⟨c, l⟩
      · rfl
      · rw [cut47, if_neg (fun h => hc ⟨l, by rw [h]⟩)]
    rw [e]
    (repeat' first
      | refine AWP.seq ?_
      | refine AWP.block ?_
      | (refine AWP.skip ?_; try dsimp only [thn, inBlk])
      | (refine AWP.exit ?_; try simp only [thn, inBlk, if_true, reduceIte, Nat.reduceEqDiff])
      | (refine AWP.ret ?_; try dsimp only [thn, inBlk])
      | (refine AWP.condT ?_ ?_; (focus (simp [go_sem]; done)))
      | (refine AWP.condF ?_ ?_; (focus (simp [go_sem]; done)))
      | (apply AWP.rE; (focus (simp [go_sem]; exact ⟨rfl, rfl⟩)); try dsimp only [thn, inBlk])
      | fail)
    simp [bodyQ, thn, inBlk, resA, resV, go_sem]
theorem cutprefix_calls {h : AHeap} {l : List UInt8} :
    ACalls Tryd.prog 40 #[tx l, .string ⟨#[47]⟩] h fun r h' => r = .tuple #[tx (cut47 l).1, .bool (cut47 l).2] ∧ h' = h := by
  refine ACalls.of_awp (args := [tx l, .string ⟨#[47]⟩]) (n := 11) Tryd.func40 rfl rfl (by show 2 ≤ 11; omega) ?_
  (repeat' first
    | refine AWP.seq ?_
    | refine AWP.block ?_
    | (refine AWP.skip ?_; try dsimp only [thn, inBlk])
    | (refine AWP.exit ?_; try simp only [thn, inBlk, if_true, reduceIte, Nat.reduceEqDiff])
    | (refine AWP.ret ?_; try dsimp only [thn, inBlk])
    | (refine AWP.condT ?_ ?_; (focus (simp [go_sem]; done)))
    | (refine AWP.condF ?_ ?_; (focus (simp [go_sem]; done)))
    | (apply AWP.rE; (focus (simp [go_sem]; exact ⟨rfl, rfl⟩)); try dsimp only [thn, inBlk])
    | fail)
  refine AWP.callE (by simp [go_sem]; exact ⟨rfl, rfl, rfl, rfl, rfl⟩) (by kernel_rfl) ?_
  refine cutprefix0_calls.mono ?_
  rintro r h' ⟨rfl, rfl⟩
  refine awpL_restE (by simp [go_sem]; exact ⟨rfl, rfl⟩) ?_; try dsimp only [thn, inBlk]
  (repeat' first
    | refine AWP.seq ?_
    | refine AWP.block ?_
    | (refine AWP.skip ?_; try dsimp only [thn, inBlk])
    | (refine AWP.exit ?_; try simp only [thn, inBlk, if_true, reduceIte, Nat.reduceEqDiff])
    | (refine AWP.ret ?_; try dsimp only [thn, inBlk])
    | (refine AWP.condT ?_ ?_; (focus (simp [go_sem]; done)))
    | (refine AWP.condF ?_ ?_; (focus (simp [go_sem]; done)))
    | (apply AWP.rE; (focus (simp [go_sem]; exact ⟨rfl, rfl⟩)); try dsimp only [thn, inBlk])
    | fail)
  simp [bodyQ, thn, inBlk, resA, resV, go_sem]

/-- Where a byte stands last: its place from 1 on, or 0. -/
def lastI (l : List UInt8) (c : UInt8) : Nat := l.length - (l.reverse.takeWhile (fun x => !(x == c))).length
def lastN : List UInt8 → UInt8 → Nat → Nat
  | l, c, 0 => 0
  | l, c, n + 1 => if l[n]? = some c then n + 1 else lastN l c n
theorem lastN_le (l : List UInt8) (c : UInt8) : ∀ n, lastN l c n ≤ n
  | 0 => Nat.le_refl _
  | n + 1 => by rw [lastN]; split; omega; have := lastN_le l c n; omega
theorem lastb0_calls {h : AHeap} {l : List UInt8} {c : UInt8} (hm : l.length ≤ 1000000) :
    ACalls Tryd.prog 67 #[tx l, .int .u8 c.toNat] h fun r h' => r = .int .i64 ((lastN l c l.length : Nat) - 1 : Int) ∧ h' = h := by
  refine ACalls.of_awp (args := [tx l, .int .u8 c.toNat]) (n := 19) Tryd.func67 rfl rfl (by show 2 ≤ 19; omega) ?_
  have w0 : IntKind.i64.wrap ((l.length : Int) - 1) = (l.length : Int) - 1 := by rw [wI64 (by omega) (by omega)]
  (repeat' first
    | refine AWP.seq ?_
    | refine AWP.block ?_
    | (refine AWP.skip ?_; try dsimp only [thn, inBlk])
    | (refine AWP.exit ?_; try simp only [thn, inBlk, if_true, reduceIte, Nat.reduceEqDiff])
    | (refine AWP.ret ?_; try dsimp only [thn, inBlk])
    | (refine AWP.condT ?_ ?_; (focus (simp [go_sem, w0]; done)))
    | (refine AWP.condF ?_ ?_; (focus (simp [go_sem, w0]; done)))
    | (apply AWP.rE; (focus (simp [go_sem, w0]; exact ⟨rfl, rfl⟩)); try dsimp only [thn, inBlk])
    | fail)
  refine AWP.loopR [0, 1, 5] (fun m s h' => ∃ n : Nat, n ≤ l.length ∧ m = n ∧ s = ⟨19, [(0, tx l), (1, .int .u8 c.toNat), (5, .int .i64 ((n : Int) - 1))]⟩ ∧ lastN l c l.length = lastN l c n ∧ h' = h) ?_ ?_
  · exact ⟨_, l.length, Nat.le_refl _, rfl, rfl, rfl, rfl⟩
  rintro n s h' ⟨_, hn, rfl, rfl, hI, rfl⟩
  rcases n with _ | n
  · have e0 : lastN l c 0 = 0 := rfl
    rw [hI, e0]
    (repeat' first
      | refine AWP.seq ?_
      | refine AWP.block ?_
      | (refine AWP.skip ?_; try dsimp only [thn, inBlk])
      | (refine AWP.exit ?_; try simp only [thn, inBlk, if_true, reduceIte, Nat.reduceEqDiff])
      | (refine AWP.ret ?_; try dsimp only [thn, inBlk])
      | (refine AWP.condT ?_ ?_; (focus (simp [go_sem]; done)))
      | (refine AWP.condF ?_ ?_; (focus (simp [go_sem]; done)))
      | (apply AWP.rE; (focus (simp [go_sem]; exact ⟨rfl, rfl⟩)); try dsimp only [thn, inBlk])
      | fail)
    simp [bodyQ, thn, inBlk, resA, resV, go_sem]
  · have hp : (0 : Int) ≤ ((n + 1 : Nat) : Int) - 1 := by omega
    have ei : ((n + 1 : Nat) : Int) - 1 = (n : Int) := by omega
    rw [ei] at hp ⊢
    have hg : indexP Tryd.prog 9 (tx l) (.int .i64 (n : Int)) = some (.int .u8 l[n].toNat) := str_index Tryd.underlying9 (by omega)
    have hgn : l[n]? = some l[n] := List.getElem?_eq_getElem (by omega)
    generalize l[n] = x at hg hgn
    have hb := eqB x c
    have w1 : IntKind.i64.wrap ((n : Int) - 1) = (n : Int) - 1 := by rw [wI64 (by omega) (by omega)]
    by_cases hx : x = c
    · have hx' : ((x.toNat : Int) == (c.toNat : Int)) = true := by rw [hx]; simp
      have e : lastN l c (n + 1) = n + 1 := by rw [lastN, if_pos (by rw [hgn, hx])]
      rw [hI, e]
      (repeat' first
        | refine AWP.seq ?_
        | refine AWP.block ?_
        | (refine AWP.skip ?_; try dsimp only [thn, inBlk])
        | (refine AWP.exit ?_; try simp only [thn, inBlk, if_true, reduceIte, Nat.reduceEqDiff])
        | (refine AWP.ret ?_; try dsimp only [thn, inBlk])
        | (refine AWP.condT ?_ ?_; (focus (simp [go_sem, hp, hg, hx']; done)))
        | (refine AWP.condF ?_ ?_; (focus (simp [go_sem, hp, hg, hx']; done)))
        | (apply AWP.rE; (focus (simp [go_sem, hp, hg, hx']; exact ⟨rfl, rfl⟩)); try dsimp only [thn, inBlk])
        | fail)
      simp [bodyQ, thn, inBlk, resA, resV, go_sem]
    · have hx' : ((x.toNat : Int) == (c.toNat : Int)) = false := neI hx
      (repeat' first
        | refine AWP.seq ?_
        | refine AWP.block ?_
        | (refine AWP.skip ?_; try dsimp only [thn, inBlk])
        | (refine AWP.exit ?_; try simp only [thn, inBlk, if_true, reduceIte, Nat.reduceEqDiff])
        | (refine AWP.ret ?_; try dsimp only [thn, inBlk])
        | (refine AWP.condT ?_ ?_; (focus (simp [go_sem, hp, hg, hx', w1]; done)))
        | (refine AWP.condF ?_ ?_; (focus (simp [go_sem, hp, hg, hx', w1]; done)))
        | (apply AWP.rE; (focus (simp [go_sem, hp, hg, hx', w1]; exact ⟨rfl, rfl⟩)); try dsimp only [thn, inBlk])
        | fail)
      exact ⟨n, by omega, n, by omega, rfl, by simp [go_sem], by rw [hI, lastN, if_neg (by rw [hgn]; simpa using hx)], rfl⟩
theorem lastb_calls {h : AHeap} {l : List UInt8} {c : UInt8} (hm : l.length ≤ 1000000) :
    ACalls Tryd.prog 58 #[tx l, .int .u8 c.toNat] h fun r h' => r = .int .i64 ((lastN l c l.length : Nat) - 1 : Int) ∧ h' = h := by
  refine ACalls.of_awp (args := [tx l, .int .u8 c.toNat]) (n := 8) Tryd.func58 rfl rfl (by show 2 ≤ 8; omega) ?_
  (repeat' first
    | refine AWP.seq ?_
    | refine AWP.block ?_
    | (refine AWP.skip ?_; try dsimp only [thn, inBlk])
    | (refine AWP.exit ?_; try simp only [thn, inBlk, if_true, reduceIte, Nat.reduceEqDiff])
    | (refine AWP.ret ?_; try dsimp only [thn, inBlk])
    | (refine AWP.condT ?_ ?_; (focus (simp [go_sem]; done)))
    | (refine AWP.condF ?_ ?_; (focus (simp [go_sem]; done)))
    | (apply AWP.rE; (focus (simp [go_sem]; exact ⟨rfl, rfl⟩)); try dsimp only [thn, inBlk])
    | fail)
  refine AWP.callE (by simp [go_sem]; exact ⟨rfl, rfl, rfl, rfl, rfl⟩) (by kernel_rfl) ?_
  refine (lastb0_calls hm).mono ?_
  rintro r h' ⟨rfl, rfl⟩
  refine awpL_restE (by simp [go_sem]; exact ⟨rfl, rfl⟩) ?_; try dsimp only [thn, inBlk]
  (repeat' first
    | refine AWP.seq ?_
    | refine AWP.block ?_
    | (refine AWP.skip ?_; try dsimp only [thn, inBlk])
    | (refine AWP.exit ?_; try simp only [thn, inBlk, if_true, reduceIte, Nat.reduceEqDiff])
    | (refine AWP.ret ?_; try dsimp only [thn, inBlk])
    | (refine AWP.condT ?_ ?_; (focus (simp [go_sem]; done)))
    | (refine AWP.condF ?_ ?_; (focus (simp [go_sem]; done)))
    | (apply AWP.rE; (focus (simp [go_sem]; exact ⟨rfl, rfl⟩)); try dsimp only [thn, inBlk])
    | fail)
  simp [bodyQ, thn, inBlk, resA, resV, go_sem]

/-- A path's parent. -/
def par (l : List UInt8) : List UInt8 := if 1 < lastN l 47 l.length then l.take (lastN l 47 l.length - 1) else [47]
theorem parent_calls {h : AHeap} {l : List UInt8} (hm : l.length ≤ 1000000) :
    ACalls Tryd.prog 35 #[tx l] h fun r h' => r = tx (par l) ∧ h' = h := by
  refine ACalls.of_awp (args := [tx l]) (n := 11) Tryd.func35 rfl rfl (by show 1 ≤ 11; omega) ?_
  (repeat' first
    | refine AWP.seq ?_
    | refine AWP.block ?_
    | (refine AWP.skip ?_; try dsimp only [thn, inBlk])
    | (refine AWP.exit ?_; try simp only [thn, inBlk, if_true, reduceIte, Nat.reduceEqDiff])
    | (refine AWP.ret ?_; try dsimp only [thn, inBlk])
    | (refine AWP.condT ?_ ?_; (focus (simp [go_sem]; done)))
    | (refine AWP.condF ?_ ?_; (focus (simp [go_sem]; done)))
    | (apply AWP.rE; (focus (simp [go_sem]; exact ⟨rfl, rfl⟩)); try dsimp only [thn, inBlk])
    | fail)
  refine AWP.callE (by simp [go_sem]; exact ⟨rfl, rfl, rfl, rfl, rfl⟩) (by kernel_rfl) ?_
  refine (lastb_calls (c := 47) hm).mono ?_
  rintro r h' ⟨rfl, rfl⟩
  have hle := lastN_le l 47 l.length
  obtain ⟨N, hN⟩ : ∃ N, N = lastN l 47 l.length := ⟨_, rfl⟩
  have hpar : par l = if 1 < N then l.take (N - 1) else [47] := by rw [hN]; rfl
  rw [← hN] at hle ⊢
  by_cases h1 : 1 < N
  · obtain ⟨M, hM⟩ : ∃ M : Nat, (N : Int) - 1 = M := ⟨N - 1, by omega⟩
    have hp : 0 < M := by omega
    have s1 : sliceR Tryd.prog h' 9 (tx l) none (some (.int .i64 (M : Int))) none = some (tx (l.take M)) := by
      have := str_slice (P := Tryd.prog) (h := h') Tryd.underlying9 (l := l) (lo := 0) (hi := M) (a := none) (u := some (.int .i64 (M : Int))) (by omega) (by omega) (.inl ⟨rfl, rfl⟩) (.inr ⟨.i64, rfl⟩)
      rw [List.drop_zero] at this; exact this
    rw [hpar, if_pos h1, show N - 1 = M by omega, hM]
    refine awpL_restE (by simp [go_sem]; exact ⟨rfl, rfl⟩) ?_; try dsimp only [thn, inBlk]
    (repeat' first
      | refine AWP.seq ?_
      | refine AWP.block ?_
      | (refine AWP.skip ?_; try dsimp only [thn, inBlk])
      | (refine AWP.exit ?_; try simp only [thn, inBlk, if_true, reduceIte, Nat.reduceEqDiff])
      | (refine AWP.ret ?_; try dsimp only [thn, inBlk])
      | (refine AWP.condT ?_ ?_; (focus (simp [go_sem, hp, s1]; done)))
      | (refine AWP.condF ?_ ?_; (focus (simp [go_sem, hp, s1]; done)))
      | (apply AWP.rE; (focus (simp [go_sem, hp, s1]; exact ⟨rfl, rfl⟩)); try dsimp only [thn, inBlk])
      | fail)
    simp [bodyQ, thn, inBlk, resA, resV, go_sem]
  · have hp : ¬ (1 : Int) < (N : Int) := by omega
    rw [hpar, if_neg h1]
    refine awpL_restE (by simp [go_sem]; exact ⟨rfl, rfl⟩) ?_; try dsimp only [thn, inBlk]
    (repeat' first
      | refine AWP.seq ?_
      | refine AWP.block ?_
      | (refine AWP.skip ?_; try dsimp only [thn, inBlk])
      | (refine AWP.exit ?_; try simp only [thn, inBlk, if_true, reduceIte, Nat.reduceEqDiff])
      | (refine AWP.ret ?_; try dsimp only [thn, inBlk])
      | (refine AWP.condT ?_ ?_; (focus (simp [go_sem, hp]; done)))
      | (refine AWP.condF ?_ ?_; (focus (simp [go_sem, hp]; done)))
      | (apply AWP.rE; (focus (simp [go_sem, hp]; exact ⟨rfl, rfl⟩)); try dsimp only [thn, inBlk])
      | fail)
    simp [bodyQ, thn, inBlk, resA, resV, go_sem]
end L19
