import Derived.Test.YtdbonhhdpaklhaaGreatDoorL23T
import Derived.Test.YtdbonhhdpaklhaaGreatDoorAbLibE
section
open Go Ab Go.Proofs
namespace L23
set_option autoImplicit false
set_option linter.unusedSimpArgs false
set_option linter.unusedVariables false

abbrev ptr (i : Nat) : Value := .pointer (some ⟨i, 0, none⟩)
abbrev tx (l : List UInt8) : Value := .string ⟨l.toArray⟩

/-! ### strings.CutPrefix, Count, Index, LastIndexByte, at one byte -/
theorem ix47 : indexP Tryz.prog 9 (.string ⟨#[47]⟩) (.int .i64 0) = some (.int .u8 47) := str_index (l := [47]) Tryz.underlying9 (j := 0) (by decide)
theorem ex102 : ExRow Tryz.prog 165 .index := ⟨_, Tryz.func165, rfl, rfl, rfl, rfl⟩
theorem ex88 : ExRow Tryz.prog 146 .count := ⟨_, Tryz.func146, rfl, rfl, rfl, rfl⟩
set_option maxRecDepth 10000 in
theorem sidxb_calls {h : AHeap} {l : List UInt8} {c : UInt8} :
    ACalls Tryz.prog 157 #[tx l, .int .u8 c.toNat] h fun r h' => r = .int .i64 (Lib.indexByte l c) ∧ h' = h := by
  refine ACalls.of_awp (args := [tx l, .int .u8 c.toNat]) (n := 8) Tryz.func157 rfl rfl (by show 2 ≤ 8; omega) ?_
  (repeat' first
    | refine AWP.seq ?_
    | refine AWP.block ?_
    | (refine AWP.skip ?_; try dsimp only [thn, inBlk])
    | (refine AWP.exit ?_; try simp only [thn, inBlk, if_true, reduceIte, Nat.reduceEqDiff])
    | (refine AWP.ret ?_; try dsimp only [thn, inBlk])
    | (refine AWP.condT ?_ ?_; (focus (simp [go_sem]; done)))
    | (refine AWP.condF ?_ ?_; (focus (simp [go_sem]; done)))
    | (apply AWP.rE; (focus (simp [go_sem]; exact ⟨rfl, rfl⟩)); try dsimp only [thn, inBlk])
    | fail)
  refine AWP.extE (by simp [go_sem]; exact ⟨rfl, rfl, rfl, rfl, rfl⟩) (ex102) (exV_str (h := h) (l := l) .index c) ?_
  refine awpL_restE (by simp [go_sem]; exact ⟨rfl, rfl⟩) ?_; try dsimp only [thn, inBlk]
  (repeat' first
    | refine AWP.seq ?_
    | refine AWP.block ?_
    | (refine AWP.skip ?_; try dsimp only [thn, inBlk])
    | (refine AWP.exit ?_; try simp only [thn, inBlk, if_true, reduceIte, Nat.reduceEqDiff])
    | (refine AWP.ret ?_; try dsimp only [thn, inBlk])
    | (refine AWP.condT ?_ ?_; (focus (simp [go_sem]; done)))
    | (refine AWP.condF ?_ ?_; (focus (simp [go_sem]; done)))
    | (apply AWP.rE; (focus (simp [go_sem]; exact ⟨rfl, rfl⟩)); try dsimp only [thn, inBlk])
    | fail)
  simp [bodyQ, thn, inBlk, resA, resV, go_sem]
  rfl
theorem stridx_calls {h : AHeap} {l : List UInt8} (hc : 0 < l.count 47) :
    ACalls Tryz.prog 147 #[tx l, .string ⟨#[47]⟩] h fun r h' => r = .int .i64 (Lib.indexByte l 47) ∧ h' = h := by
  refine ACalls.of_awp (args := [tx l, .string ⟨#[47]⟩]) (n := 143) Tryz.func147 rfl rfl (by show 2 ≤ 143; omega) ?_
  by_cases hl : l = [47]
  · subst hl
    (repeat' first
      | refine AWP.seq ?_
      | refine AWP.block ?_
      | (refine AWP.skip ?_; try dsimp only [thn, inBlk])
      | (refine AWP.exit ?_; try simp only [thn, inBlk, if_true, reduceIte, Nat.reduceEqDiff])
      | (refine AWP.ret ?_; try dsimp only [thn, inBlk])
      | (refine AWP.condT ?_ ?_; (focus (simp [go_sem, ix47]; done)))
      | (refine AWP.condF ?_ ?_; (focus (simp [go_sem, ix47]; done)))
      | (apply AWP.rE; (focus (simp [go_sem, ix47]; exact ⟨rfl, rfl⟩)); try dsimp only [thn, inBlk])
      | fail)
    simp [bodyQ, thn, inBlk, resA, resV, go_sem]
    rfl
  · have hne : (([47] : List UInt8) == l) = false := by
      rw [beq_eq_false_iff_ne]
      exact fun e => hl e.symm
    (repeat' first
      | refine AWP.seq ?_
      | refine AWP.block ?_
      | (refine AWP.skip ?_; try dsimp only [thn, inBlk])
      | (refine AWP.exit ?_; try simp only [thn, inBlk, if_true, reduceIte, Nat.reduceEqDiff])
      | (refine AWP.ret ?_; try dsimp only [thn, inBlk])
      | (refine AWP.condT ?_ ?_; (focus (simp [go_sem, ix47, hne]; done)))
      | (refine AWP.condF ?_ ?_; (focus (simp [go_sem, ix47, hne]; done)))
      | (apply AWP.rE; (focus (simp [go_sem, ix47, hne]; exact ⟨rfl, rfl⟩)); try dsimp only [thn, inBlk])
      | fail)
    refine AWP.callE (by simp [go_sem, ix47]; exact ⟨rfl, rfl, rfl, rfl, rfl⟩) (by kernel_rfl) ?_
    refine (sidxb_calls (c := 47)).mono ?_
    rintro r h' ⟨rfl, rfl⟩
    refine awpL_restE (by simp [go_sem]; exact ⟨rfl, rfl⟩) ?_; try dsimp only [thn, inBlk]
    (repeat' first
      | refine AWP.seq ?_
      | refine AWP.block ?_
      | (refine AWP.skip ?_; try dsimp only [thn, inBlk])
      | (refine AWP.exit ?_; try simp only [thn, inBlk, if_true, reduceIte, Nat.reduceEqDiff])
      | (refine AWP.ret ?_; try dsimp only [thn, inBlk])
      | (refine AWP.condT ?_ ?_; (focus (simp [go_sem]; done)))
      | (refine AWP.condF ?_ ?_; (focus (simp [go_sem]; done)))
      | (apply AWP.rE; (focus (simp [go_sem]; exact ⟨rfl, rfl⟩)); try dsimp only [thn, inBlk])
      | fail)
    simp [bodyQ, thn, inBlk, resA, resV, go_sem]
theorem sindex_calls {h : AHeap} {l : List UInt8} (hc : 0 < l.count 47) :
    ACalls Tryz.prog 128 #[tx l, .string ⟨#[47]⟩] h fun r h' => r = .int .i64 (Lib.indexByte l 47) ∧ h' = h := by
  refine ACalls.of_awp (args := [tx l, .string ⟨#[47]⟩]) (n := 8) Tryz.func128 rfl rfl (by show 2 ≤ 8; omega) ?_
  (repeat' first
    | refine AWP.seq ?_
    | refine AWP.block ?_
    | (refine AWP.skip ?_; try dsimp only [thn, inBlk])
    | (refine AWP.exit ?_; try simp only [thn, inBlk, if_true, reduceIte, Nat.reduceEqDiff])
    | (refine AWP.ret ?_; try dsimp only [thn, inBlk])
    | (refine AWP.condT ?_ ?_; (focus (simp [go_sem]; done)))
    | (refine AWP.condF ?_ ?_; (focus (simp [go_sem]; done)))
    | (apply AWP.rE; (focus (simp [go_sem]; exact ⟨rfl, rfl⟩)); try dsimp only [thn, inBlk])
    | fail)
  refine AWP.callE (by simp [go_sem]; exact ⟨rfl, rfl, rfl, rfl, rfl⟩) (by kernel_rfl) ?_
  refine (stridx_calls hc).mono ?_
  rintro r h' ⟨rfl, rfl⟩
  refine awpL_restE (by simp [go_sem]; exact ⟨rfl, rfl⟩) ?_; try dsimp only [thn, inBlk]
  (repeat' first
    | refine AWP.seq ?_
    | refine AWP.block ?_
    | (refine AWP.skip ?_; try dsimp only [thn, inBlk])
    | (refine AWP.exit ?_; try simp only [thn, inBlk, if_true, reduceIte, Nat.reduceEqDiff])
    | (refine AWP.ret ?_; try dsimp only [thn, inBlk])
    | (refine AWP.condT ?_ ?_; (focus (simp [go_sem]; done)))
    | (refine AWP.condF ?_ ?_; (focus (simp [go_sem]; done)))
    | (apply AWP.rE; (focus (simp [go_sem]; exact ⟨rfl, rfl⟩)); try dsimp only [thn, inBlk])
    | fail)
  simp [bodyQ, thn, inBlk, resA, resV, go_sem]
set_option maxRecDepth 10000 in
theorem scount_calls {h : AHeap} {l : List UInt8} :
    ACalls Tryz.prog 127 #[tx l, .string ⟨#[47]⟩] h fun r h' => r = .int .i64 ((l.count 47 : Nat) : Int) ∧ h' = h := by
  refine ACalls.of_awp (args := [tx l, .string ⟨#[47]⟩]) (n := 34) Tryz.func127 rfl rfl (by show 2 ≤ 34; omega) ?_
  (repeat' first
    | refine AWP.seq ?_
    | refine AWP.block ?_
    | (refine AWP.skip ?_; try dsimp only [thn, inBlk])
    | (refine AWP.exit ?_; try simp only [thn, inBlk, if_true, reduceIte, Nat.reduceEqDiff])
    | (refine AWP.ret ?_; try dsimp only [thn, inBlk])
    | (refine AWP.condT ?_ ?_; (focus (simp [go_sem, ix47]; done)))
    | (refine AWP.condF ?_ ?_; (focus (simp [go_sem, ix47]; done)))
    | (apply AWP.rE; (focus (simp [go_sem, ix47]; exact ⟨rfl, rfl⟩)); try dsimp only [thn, inBlk])
    | fail)
  refine AWP.extE (by simp [go_sem, ix47]; exact ⟨rfl, rfl, rfl, rfl, rfl⟩) (ex88) (exV_str (h := h) (l := l) .count 47) ?_
  refine awpL_restE (by simp [go_sem]; exact ⟨rfl, rfl⟩) ?_; try dsimp only [thn, inBlk]
  (repeat' first
    | refine AWP.seq ?_
    | refine AWP.block ?_
    | (refine AWP.skip ?_; try dsimp only [thn, inBlk])
    | (refine AWP.exit ?_; try simp only [thn, inBlk, if_true, reduceIte, Nat.reduceEqDiff])
    | (refine AWP.ret ?_; try dsimp only [thn, inBlk])
    | (refine AWP.condT ?_ ?_; (focus (simp [go_sem]; done)))
    | (refine AWP.condF ?_ ?_; (focus (simp [go_sem]; done)))
    | (apply AWP.rE; (focus (simp [go_sem]; exact ⟨rfl, rfl⟩)); try dsimp only [thn, inBlk])
    | fail)
  simp [bodyQ, thn, inBlk, resA, resV, go_sem]
  rfl
end L23
end

section
open Go Ab Go.Proofs
namespace L23
set_option autoImplicit false
set_option linter.unusedSimpArgs false
set_option linter.unusedVariables false

/-! ### strings.CutPrefix, LastIndexByte -/
def cut47 : List UInt8 → List UInt8 × Bool
  | [] => ([], false)
  | c :: r => if c = 47 then (r, true) else (c :: r, false)
theorem hasprefix_calls {h : AHeap} {l : List UInt8} :
    ACalls Tryz.prog 125 #[tx l, .string ⟨#[47]⟩] h fun r h' => r = .bool (cut47 l).2 ∧ h' = h := by
  refine ACalls.of_awp (args := [tx l, .string ⟨#[47]⟩]) (n := 18) Tryz.func125 rfl rfl (by show 2 ≤ 18; omega) ?_
  rcases l with _ | ⟨c, l⟩
  · (repeat' first
      | refine AWP.seq ?_
      | refine AWP.block ?_
      | (refine AWP.skip ?_; try dsimp only [thn, inBlk])
      | (refine AWP.exit ?_; try simp only [thn, inBlk, if_true, reduceIte, Nat.reduceEqDiff])
      | (refine AWP.ret ?_; try dsimp only [thn, inBlk])
      | (refine AWP.condT ?_ ?_; (focus (simp [go_sem]; done)))
      | (refine AWP.condF ?_ ?_; (focus (simp [go_sem]; done)))
      | (apply AWP.rE; (focus (simp [go_sem]; exact ⟨rfl, rfl⟩)); try dsimp only [thn, inBlk])
      | fail)
    simp [bodyQ, thn, inBlk, resA, resV, go_sem]
    rfl
  have hl : (1 : Int) ≤ (c :: l).length := by simp; omega
  have s1 : sliceR Tryz.prog h 9 (tx (c :: l)) none (some (.int .i64 1)) none = some (tx [c]) := str_slice (h := h) Tryz.underlying9 (l := c :: l) (lo := 0) (hi := 1) (a := none) (u := some (.int .i64 1)) (by omega) (by simp) (.inl ⟨rfl, rfl⟩) (.inr ⟨.i64, rfl⟩)
  obtain ⟨L, hL⟩ : ∃ L, L = c :: l := ⟨_, rfl⟩
  rw [← hL] at hl s1 ⊢
  have e : (cut47 L).2 = ([c] == [47]) := by
    rw [hL, cut47]
    by_cases hc : c = 47
    · simp [hc]
    · simp [hc]
  (repeat' first
    | refine AWP.seq ?_
    | refine AWP.block ?_
    | (refine AWP.skip ?_; try dsimp only [thn, inBlk])
    | (refine AWP.exit ?_; try simp only [thn, inBlk, if_true, reduceIte, Nat.reduceEqDiff])
    | (refine AWP.ret ?_; try dsimp only [thn, inBlk])
    | (refine AWP.condT ?_ ?_; (focus (simp [go_sem, hl, s1]; done)))
    | (refine AWP.condF ?_ ?_; (focus (simp [go_sem, hl, s1]; done)))
    | (apply AWP.rE; (focus (simp [go_sem, hl, s1]; exact ⟨rfl, rfl⟩)); try dsimp only [thn, inBlk])
    | fail)
  simp [bodyQ, thn, inBlk, resA, resV, go_sem, e]
theorem cutprefix0_calls {h : AHeap} {l : List UInt8} :
    ACalls Tryz.prog 103 #[tx l, .string ⟨#[47]⟩] h fun r h' => r = .tuple #[tx (cut47 l).1, .bool (cut47 l).2] ∧ h' = h := by
  refine ACalls.of_awp (args := [tx l, .string ⟨#[47]⟩]) (n := 15) Tryz.func103 rfl rfl (by show 2 ≤ 15; omega) ?_
  (repeat' first
    | refine AWP.seq ?_
    | refine AWP.block ?_
    | (refine AWP.skip ?_; try dsimp only [thn, inBlk])
    | (refine AWP.exit ?_; try simp only [thn, inBlk, if_true, reduceIte, Nat.reduceEqDiff])
    | (refine AWP.ret ?_; try dsimp only [thn, inBlk])
    | (refine AWP.condT ?_ ?_; (focus (simp [go_sem]; done)))
    | (refine AWP.condF ?_ ?_; (focus (simp [go_sem]; done)))
    | (apply AWP.rE; (focus (simp [go_sem]; exact ⟨rfl, rfl⟩)); try dsimp only [thn, inBlk])
    | fail)
  refine AWP.callE (by simp [go_sem]; exact ⟨rfl, rfl, rfl, rfl, rfl⟩) (by kernel_rfl) ?_
  refine hasprefix_calls.mono ?_
  rintro r h' ⟨rfl, rfl⟩
  refine awpL_restE (by simp [go_sem]; exact ⟨rfl, rfl⟩) ?_; try dsimp only [thn, inBlk]
  by_cases hc : ∃ r, l = 47 :: r
  · obtain ⟨r, rfl⟩ := hc
    have e : cut47 (47 :: r) = (r, true) := by simp [cut47]
    have s1 : sliceR Tryz.prog h' 9 (tx (47 :: r)) (some (.int .i64 1)) none none = some (tx r) := by
      have := str_slice (P := Tryz.prog) (h := h') Tryz.underlying9 (l := 47 :: r) (lo := 1) (hi := (47 :: r).length) (a := some (.int .i64 1)) (u := none) (by simp) (Nat.le_refl _) (.inr ⟨.i64, rfl⟩) (.inl ⟨rfl, rfl⟩)
      rw [List.take_length] at this
      exact this
    rw [e]
    obtain ⟨L, hL⟩ : ∃ L, L = (47 : UInt8) :: r := ⟨_, rfl⟩
    rw [← hL] at s1 ⊢
    (repeat' first
      | refine AWP.seq ?_
      | refine AWP.block ?_
      | (refine AWP.skip ?_; try dsimp only [thn, inBlk])
      | (refine AWP.exit ?_; try simp only [thn, inBlk, if_true, reduceIte, Nat.reduceEqDiff])
      | (refine AWP.ret ?_; try dsimp only [thn, inBlk])
      | (refine AWP.condT ?_ ?_; (focus (simp [go_sem, s1]; done)))
      | (refine AWP.condF ?_ ?_; (focus (simp [go_sem, s1]; done)))
      | (apply AWP.rE; (focus (simp [go_sem, s1]; exact ⟨rfl, rfl⟩)); try dsimp only [thn, inBlk])
      | fail)
    simp [bodyQ, thn, inBlk, resA, resV, go_sem]
  · have e : cut47 l = (l, false) := by
      rcases l with _ | ⟨c, l⟩
      · rfl
      · rw [cut47, if_neg (fun h => hc ⟨l, by rw [h]⟩)]
    rw [e]
    (repeat' first
      | refine AWP.seq ?_
      | refine AWP.block ?_
      | (refine AWP.skip ?_; try dsimp only [thn, inBlk])
      | (refine AWP.exit ?_; try simp only [thn, inBlk, if_true, reduceIte, Nat.reduceEqDiff])
      | (refine AWP.ret ?_; try dsimp only [thn, inBlk])
      | (refine AWP.condT ?_ ?_; (focus (simp [go_sem]; done)))
      | (refine AWP.condF ?_ ?_; (focus (simp [go_sem]; done)))
      | (apply AWP.rE; (focus (simp [go_sem]; exact ⟨rfl, rfl⟩)); try dsimp only [thn, inBlk])
      | fail)
    simp [bodyQ, thn, inBlk, resA, resV, go_sem]
theorem cutprefix_calls {h : AHeap} {l : List UInt8} :
    ACalls Tryz.prog 79 #[tx l, .string ⟨#[47]⟩] h fun r h' => r = .tuple #[tx (cut47 l).1, .bool (cut47 l).2] ∧ h' = h := by
  refine ACalls.of_awp (args := [tx l, .string ⟨#[47]⟩]) (n := 11) Tryz.func79 rfl rfl (by show 2 ≤ 11; omega) ?_
  (repeat' first
    | refine AWP.seq ?_
    | refine AWP.block ?_
    | (refine AWP.skip ?_; try dsimp only [thn, inBlk])
    | (refine AWP.exit ?_; try simp only [thn, inBlk, if_true, reduceIte, Nat.reduceEqDiff])
    | (refine AWP.ret ?_; try dsimp only [thn, inBlk])
    | (refine AWP.condT ?_ ?_; (focus (simp [go_sem]; done)))
    | (refine AWP.condF ?_ ?_; (focus (simp [go_sem]; done)))
    | (apply AWP.rE; (focus (simp [go_sem]; exact ⟨rfl, rfl⟩)); try dsimp only [thn, inBlk])
    | fail)
  refine AWP.callE (by simp [go_sem]; exact ⟨rfl, rfl, rfl, rfl, rfl⟩) (by kernel_rfl) ?_
  refine cutprefix0_calls.mono ?_
  rintro r h' ⟨rfl, rfl⟩
  refine awpL_restE (by simp [go_sem]; exact ⟨rfl, rfl⟩) ?_; try dsimp only [thn, inBlk]
  (repeat' first
    | refine AWP.seq ?_
    | refine AWP.block ?_
    | (refine AWP.skip ?_; try dsimp only [thn, inBlk])
    | (refine AWP.exit ?_; try simp only [thn, inBlk, if_true, reduceIte, Nat.reduceEqDiff])
    | (refine AWP.ret ?_; try dsimp only [thn, inBlk])
    | (refine AWP.condT ?_ ?_; (focus (simp [go_sem]; done)))
    | (refine AWP.condF ?_ ?_; (focus (simp [go_sem]; done)))
    | (apply AWP.rE; (focus (simp [go_sem]; exact ⟨rfl, rfl⟩)); try dsimp only [thn, inBlk])
    | fail)
  simp [bodyQ, thn, inBlk, resA, resV, go_sem]

/-- Where a byte stands last: its place from 1 on, or 0. -/
def lastI (l : List UInt8) (c : UInt8) : Nat := l.length - (l.reverse.takeWhile (fun x => !(x == c))).length
def lastN : List UInt8 → UInt8 → Nat → Nat
  | l, c, 0 => 0
  | l, c, n + 1 => if l[n]? = some c then n + 1 else lastN l c n
theorem lastN_le (l : List UInt8) (c : UInt8) : ∀ n, lastN l c n ≤ n
  | 0 => Nat.le_refl _
  | n + 1 => by rw [lastN]; split; omega; have := lastN_le l c n; omega
theorem lastb0_calls {h : AHeap} {l : List UInt8} {c : UInt8} (hm : l.length ≤ 1000000) :
    ACalls Tryz.prog 65 #[tx l, .int .u8 c.toNat] h fun r h' => r = .int .i64 ((lastN l c l.length : Nat) - 1 : Int) ∧ h' = h := by
  refine ACalls.of_awp (args := [tx l, .int .u8 c.toNat]) (n := 19) Tryz.func65 rfl rfl (by show 2 ≤ 19; omega) ?_
  have w0 : IntKind.i64.wrap ((l.length : Int) - 1) = (l.length : Int) - 1 := by rw [wI64 (by omega) (by omega)]
  (repeat' first
    | refine AWP.seq ?_
    | refine AWP.block ?_
    | (refine AWP.skip ?_; try dsimp only [thn, inBlk])
    | (refine AWP.exit ?_; try simp only [thn, inBlk, if_true, reduceIte, Nat.reduceEqDiff])
    | (refine AWP.ret ?_; try dsimp only [thn, inBlk])
    | (refine AWP.condT ?_ ?_; (focus (simp [go_sem, w0]; done)))
    | (refine AWP.condF ?_ ?_; (focus (simp [go_sem, w0]; done)))
    | (apply AWP.rE; (focus (simp [go_sem, w0]; exact ⟨rfl, rfl⟩)); try dsimp only [thn, inBlk])
    | fail)
  refine AWP.loopR [0, 1, 5] (fun m s h' => ∃ n : Nat, n ≤ l.length ∧ m = n ∧ s = ⟨19, [(0, tx l), (1, .int .u8 c.toNat), (5, .int .i64 ((n : Int) - 1))]⟩ ∧ lastN l c l.length = lastN l c n ∧ h' = h) ?_ ?_
  · exact ⟨_, l.length, Nat.le_refl _, rfl, rfl, rfl, rfl⟩
  rintro n s h' ⟨_, hn, rfl, rfl, hI, rfl⟩
  rcases n with _ | n
  · have e0 : lastN l c 0 = 0 := rfl
    rw [hI, e0]
    (repeat' first
      | refine AWP.seq ?_
      | refine AWP.block ?_
      | (refine AWP.skip ?_; try dsimp only [thn, inBlk])
      | (refine AWP.exit ?_; try simp only [thn, inBlk, if_true, reduceIte, Nat.reduceEqDiff])
      | (refine AWP.ret ?_; try dsimp only [thn, inBlk])
      | (refine AWP.condT ?_ ?_; (focus (simp [go_sem]; done)))
      | (refine AWP.condF ?_ ?_; (focus (simp [go_sem]; done)))
      | (apply AWP.rE; (focus (simp [go_sem]; exact ⟨rfl, rfl⟩)); try dsimp only [thn, inBlk])
      | fail)
    simp [bodyQ, thn, inBlk, resA, resV, go_sem]
  · have hp : (0 : Int) ≤ ((n + 1 : Nat) : Int) - 1 := by omega
    have ei : ((n + 1 : Nat) : Int) - 1 = (n : Int) := by omega
    rw [ei] at hp ⊢
    have hg : indexP Tryz.prog 9 (tx l) (.int .i64 (n : Int)) = some (.int .u8 l[n].toNat) := str_index Tryz.underlying9 (by omega)
    have hgn : l[n]? = some l[n] := List.getElem?_eq_getElem (by omega)
    generalize l[n] = x at hg hgn
    have hb := eqB x c
    have w1 : IntKind.i64.wrap ((n : Int) - 1) = (n : Int) - 1 := by rw [wI64 (by omega) (by omega)]
    by_cases hx : x = c
    · have hx' : ((x.toNat : Int) == (c.toNat : Int)) = true := by rw [hx]; simp
      have e : lastN l c (n + 1) = n + 1 := by rw [lastN, if_pos (by rw [hgn, hx])]
      rw [hI, e]
      (repeat' first
        | refine AWP.seq ?_
        | refine AWP.block ?_
        | (refine AWP.skip ?_; try dsimp only [thn, inBlk])
        | (refine AWP.exit ?_; try simp only [thn, inBlk, if_true, reduceIte, Nat.reduceEqDiff])
        | (refine AWP.ret ?_; try dsimp only [thn, inBlk])
        | (refine AWP.condT ?_ ?_; (focus (simp [go_sem, hp, hg, hx']; done)))
        | (refine AWP.condF ?_ ?_; (focus (simp [go_sem, hp, hg, hx']; done)))
        | (apply AWP.rE; (focus (simp [go_sem, hp, hg, hx']; exact ⟨rfl, rfl⟩)); try dsimp only [thn, inBlk])
        | fail)
      simp [bodyQ, thn, inBlk, resA, resV, go_sem]
    · have hx' : ((x.toNat : Int) == (c.toNat : Int)) = false := neI hx
      (repeat' first
        | refine AWP.seq ?_
        | refine AWP.block ?_
        | (refine AWP.skip ?_; try dsimp only [thn, inBlk])
        | (refine AWP.exit ?_; try simp only [thn, inBlk, if_true, reduceIte, Nat.reduceEqDiff])
        | (refine AWP.ret ?_; try dsimp only [thn, inBlk])
        | (refine AWP.condT ?_ ?_; (focus (simp [go_sem, hp, hg, hx', w1]; done)))
        | (refine AWP.condF ?_ ?_; (focus (simp [go_sem, hp, hg, hx', w1]; done)))
        | (apply AWP.rE; (focus (simp [go_sem, hp, hg, hx', w1]; exact ⟨rfl, rfl⟩)); try dsimp only [thn, inBlk])
        | fail)
      exact ⟨n, by omega, n, by omega, rfl, by simp [go_sem], by rw [hI, lastN, if_neg (by rw [hgn]; simpa using hx)], rfl⟩
theorem lastb_calls {h : AHeap} {l : List UInt8} {c : UInt8} (hm : l.length ≤ 1000000) :
    ACalls Tryz.prog 44 #[tx l, .int .u8 c.toNat] h fun r h' => r = .int .i64 ((lastN l c l.length : Nat) - 1 : Int) ∧ h' = h := by
  refine ACalls.of_awp (args := [tx l, .int .u8 c.toNat]) (n := 8) Tryz.func44 rfl rfl (by show 2 ≤ 8; omega) ?_
  (repeat' first
    | refine AWP.seq ?_
    | refine AWP.block ?_
    | (refine AWP.skip ?_; try dsimp only [thn, inBlk])
    | (refine AWP.exit ?_; try simp only [thn, inBlk, if_true, reduceIte, Nat.reduceEqDiff])
    | (refine AWP.ret ?_; try dsimp only [thn, inBlk])
    | (refine AWP.condT ?_ ?_; (focus (simp [go_sem]; done)))
    | (refine AWP.condF ?_ ?_; (focus (simp [go_sem]; done)))
    | (apply AWP.rE; (focus (simp [go_sem]; exact ⟨rfl, rfl⟩)); try dsimp only [thn, inBlk])
    | fail)
  refine AWP.callE (by simp [go_sem]; exact ⟨rfl, rfl, rfl, rfl, rfl⟩) (by kernel_rfl) ?_
  refine (lastb0_calls hm).mono ?_
  rintro r h' ⟨rfl, rfl⟩
  refine awpL_restE (by simp [go_sem]; exact ⟨rfl, rfl⟩) ?_; try dsimp only [thn, inBlk]
  (repeat' first
    | refine AWP.seq ?_
    | refine AWP.block ?_
    | (refine AWP.skip ?_; try dsimp only [thn, inBlk])
    | (refine AWP.exit ?_; try simp only [thn, inBlk, if_true, reduceIte, Nat.reduceEqDiff])
    | (refine AWP.ret ?_; try dsimp only [thn, inBlk])
    | (refine AWP.condT ?_ ?_; (focus (simp [go_sem]; done)))
    | (refine AWP.condF ?_ ?_; (focus (simp [go_sem]; done)))
    | (apply AWP.rE; (focus (simp [go_sem]; exact ⟨rfl, rfl⟩)); try dsimp only [thn, inBlk])
    | fail)
  simp [bodyQ, thn, inBlk, resA, resV, go_sem]

/-- A path's parent. -/
def par (l : List UInt8) : List UInt8 := if 1 < lastN l 47 l.length then l.take (lastN l 47 l.length - 1) else [47]
theorem parent_calls {h : AHeap} {l : List UInt8} (hm : l.length ≤ 1000000) :
    ACalls Tryz.prog 62 #[tx l] h fun r h' => r = tx (par l) ∧ h' = h := by
  refine ACalls.of_awp (args := [tx l]) (n := 11) Tryz.func62 rfl rfl (by show 1 ≤ 11; omega) ?_
  (repeat' first
    | refine AWP.seq ?_
    | refine AWP.block ?_
    | (refine AWP.skip ?_; try dsimp only [thn, inBlk])
    | (refine AWP.exit ?_; try simp only [thn, inBlk, if_true, reduceIte, Nat.reduceEqDiff])
    | (refine AWP.ret ?_; try dsimp only [thn, inBlk])
    | (refine AWP.condT ?_ ?_; (focus (simp [go_sem]; done)))
    | (refine AWP.condF ?_ ?_; (focus (simp [go_sem]; done)))
    | (apply AWP.rE; (focus (simp [go_sem]; exact ⟨rfl, rfl⟩)); try dsimp only [thn, inBlk])
    | fail)
  refine AWP.callE (by simp [go_sem]; exact ⟨rfl, rfl, rfl, rfl, rfl⟩) (by kernel_rfl) ?_
  refine (lastb_calls (c := 47) hm).mono ?_
  rintro r h' ⟨rfl, rfl⟩
  have hle := lastN_le l 47 l.length
  obtain ⟨N, hN⟩ : ∃ N, N = lastN l 47 l.length := ⟨_, rfl⟩
  have hpar : par l = if 1 < N then l.take (N - 1) else [47] := by rw [hN]; rfl
  rw [← hN] at hle ⊢
  by_cases h1 : 1 < N
  · obtain ⟨M, hM⟩ : ∃ M : Nat, (N : Int) - 1 = M := ⟨N - 1, by omega⟩
    have hp : 0 < M := by omega
    have s1 : sliceR Tryz.prog h' 9 (tx l) none (some (.int .i64 (M : Int))) none = some (tx (l.take M)) := by
      have := str_slice (P := Tryz.prog) (h := h') Tryz.underlying9 (l := l) (lo := 0) (hi := M) (a := none) (u := some (.int .i64 (M : Int))) (by omega) (by omega) (.inl ⟨rfl, rfl⟩) (.inr ⟨.i64, rfl⟩)
      rw [List.drop_zero] at this; exact this
    rw [hpar, if_pos h1, show N - 1 = M by omega, hM]
    refine awpL_restE (by simp [go_sem]; exact ⟨rfl, rfl⟩) ?_; try dsimp only [thn, inBlk]
    (repeat' first
      | refine AWP.seq ?_
      | refine AWP.block ?_
      | (refine AWP.skip ?_; try dsimp only [thn, inBlk])
      | (refine AWP.exit ?_; try simp only [thn, inBlk, if_true, reduceIte, Nat.reduceEqDiff])
      | (refine AWP.ret ?_; try dsimp only [thn, inBlk])
      | (refine AWP.condT ?_ ?_; (focus (simp [go_sem, hp, s1]; done)))
      | (refine AWP.condF ?_ ?_; (focus (simp [go_sem, hp, s1]; done)))
      | (apply AWP.rE; (focus (simp [go_sem, hp, s1]; exact ⟨rfl, rfl⟩)); try dsimp only [thn, inBlk])
      | fail)
    simp [bodyQ, thn, inBlk, resA, resV, go_sem]
  · have hp : ¬ (1 : Int) < (N : Int) := by omega
    rw [hpar, if_neg h1]
    refine awpL_restE (by simp [go_sem]; exact ⟨rfl, rfl⟩) ?_; try dsimp only [thn, inBlk]
    (repeat' first
      | refine AWP.seq ?_
      | refine AWP.block ?_
      | (refine AWP.skip ?_; try dsimp only [thn, inBlk])
      | (refine AWP.exit ?_; try simp only [thn, inBlk, if_true, reduceIte, Nat.reduceEqDiff])
      | (refine AWP.ret ?_; try dsimp only [thn, inBlk])
      | (refine AWP.condT ?_ ?_; (focus (simp [go_sem, hp]; done)))
      | (refine AWP.condF ?_ ?_; (focus (simp [go_sem, hp]; done)))
      | (apply AWP.rE; (focus (simp [go_sem, hp]; exact ⟨rfl, rfl⟩)); try dsimp only [thn, inBlk])
      | fail)
    simp [bodyQ, thn, inBlk, resA, resV, go_sem]
end L23
end

section
open Go Ab Go.Proofs
namespace L23
set_option autoImplicit false
set_option linter.unusedSimpArgs false
set_option linter.unusedVariables false

/-! ### strings.Split at one byte -/
def splitB : List UInt8 → List (List UInt8)
  | [] => [[]]
  | c :: l => if c = 47 then [] :: splitB l else match splitB l with
    | [] => [[c]]
    | x :: r => (c :: x) :: r
theorem splitB_length : ∀ l : List UInt8, (splitB l).length = l.count 47 + 1
  | [] => rfl
  | c :: l => by
    have ih := splitB_length l
    rw [splitB]
    split
    · rename_i h; subst h; simp [ih]
    · rename_i h
      rw [List.count_cons_of_ne h]
      match hs : splitB l with
      | [] => rw [hs] at ih; simp at ih
      | x :: r => rw [hs] at ih; simpa using ih
theorem splitB_cut : ∀ (p t : List UInt8), (47 : UInt8) ∉ p → splitB (p ++ 47 :: t) = p :: splitB t
  | [], t, _ => by simp [splitB]
  | c :: p, t, h => by
    simp only [List.mem_cons, not_or] at h
    rw [List.cons_append, splitB, if_neg (Ne.symm h.1), splitB_cut p t h.2]
theorem splitB_one : ∀ (l : List UInt8), l.count 47 = 0 → splitB l = [l]
  | [], _ => rfl
  | c :: l, h => by
    have hc : c ≠ 47 := by rintro rfl; simp at h
    rw [List.count_cons_of_ne hc] at h
    rw [splitB, if_neg hc, splitB_one l h]
theorem set_rep {α : Type} (d : List α) (x y : α) (n : Nat) : (d ++ List.replicate (n + 1) y).set d.length x = (d ++ [x]) ++ List.replicate n y := by
  rw [List.set_append_right _ _ (Nat.le_refl _), Nat.sub_self, List.replicate_succ]
  simp

abbrev txs (v : Value) (ls : List (List UInt8)) : Chunk := os 9 1 v ls.length (ls.map T)

set_option maxHeartbeats 4000000 in
theorem gensplit_calls {O : Old} {h : AHeap} {R : List Chunk} {l : List UInt8} (k : Own O h R) (hm : l.length ≤ 1000000) :
    ACalls Tryz.prog 104 #[tx l, .string ⟨#[47]⟩, .int .i64 0, .int .i64 (-1)] h fun r h' => ∃ a cap, r = .slice a (splitB l).length cap ∧ Own O h' (txs (.slice a (splitB l).length cap) (splitB l) :: R) := by
  refine ACalls.of_awp (args := [tx l, .string ⟨#[47]⟩, .int .i64 0, .int .i64 (-1)]) (n := 66) Tryz.func104 rfl rfl (by show 4 ≤ 66; omega) ?_
  (repeat' first
    | refine AWP.seq ?_
    | refine AWP.block ?_
    | (refine AWP.skip ?_; try dsimp only [thn, inBlk])
    | (refine AWP.exit ?_; try simp only [thn, inBlk, if_true, reduceIte, Nat.reduceEqDiff])
    | (refine AWP.ret ?_; try dsimp only [thn, inBlk])
    | (refine AWP.condT ?_ ?_; (focus (simp [go_sem]; done)))
    | (refine AWP.condF ?_ ?_; (focus (simp [go_sem]; done)))
    | (apply AWP.rE; (focus (simp [go_sem]; exact ⟨rfl, rfl⟩)); try dsimp only [thn, inBlk])
    | fail)
  refine AWP.callE (by simp [go_sem]; exact ⟨rfl, rfl, rfl, rfl, rfl⟩) (by kernel_rfl) ?_
  refine scount_calls.mono ?_
  rintro r h1 ⟨rfl, rfl⟩
  obtain ⟨c, hc⟩ : ∃ c, c = l.count 47 := ⟨_, rfl⟩
  have hcl : c ≤ l.length := hc ▸ List.count_le_length
  have hsl := splitB_length l
  rw [← hc] at hsl ⊢
  obtain ⟨N, hN⟩ : ∃ N, N = c + 1 := ⟨_, rfl⟩
  obtain ⟨L1, hL1⟩ : ∃ L1, L1 = l.length + 1 := ⟨_, rfl⟩
  have w1 : IntKind.i64.wrap ((c : Int) + 1) = (N : Int) := by rw [wI64 (by omega) (by omega)]; omega
  have w2 : IntKind.i64.wrap ((l.length : Int) + 1) = (L1 : Int) := by rw [wI64 (by omega) (by omega)]; omega
  have w3 : IntKind.i64.wrap ((N : Int) - 1) = (c : Int) := by rw [wI64 (by omega) (by omega)]; omega
  have hlt : ¬ (L1 : Int) < (N : Int) := by omega
  have hlt2 : ¬ L1 < N := by omega
  have e3 : makeSliceA Tryz.prog h1.next 71 (.int .i64 N) (.int .i64 N) = some (.slice (some ⟨h1.next, 0, none⟩) N N, .row ((List.replicate N ([] : List UInt8)).map T) 9 1 true false) := mkTexts Tryz.underlying71 tsz9 tby9 tz9 (by omega) (by omega)
  have k1 := k.freshT (e := 9) (ls := List.replicate N ([] : List UInt8))
  rw [List.length_replicate] at k1
  have er : (List.replicate N ([] : List UInt8)).map T = List.replicate N (.string ⟨#[]⟩) := by simp [T]
  have k1 : Own O (h1.push (.row (List.replicate N (.string ⟨#[]⟩)) 9 1 true false)) (os 9 1 (.slice (some ⟨h1.next, 0, none⟩) N N) N ((List.replicate N ([] : List UInt8)).map T) :: R) := by rw [← er]; exact k1
  rw [er] at e3
  refine awpL_restE (by simp [go_sem]; exact ⟨rfl, rfl⟩) ?_; try dsimp only [thn, inBlk]
  (repeat' first
    | refine AWP.seq ?_
    | refine AWP.block ?_
    | (refine AWP.skip ?_; try dsimp only [thn, inBlk])
    | (refine AWP.exit ?_; try simp only [thn, inBlk, if_true, reduceIte, Nat.reduceEqDiff])
    | (refine AWP.ret ?_; try dsimp only [thn, inBlk])
    | (refine AWP.condT ?_ ?_; (focus (simp [go_sem, w1, w2, w3, hlt, hlt2, e3]; done)))
    | (refine AWP.condF ?_ ?_; (focus (simp [go_sem, w1, w2, w3, hlt, hlt2, e3]; done)))
    | (apply AWP.rE; (focus (simp [go_sem, w1, w2, w3, hlt, hlt2, e3]; exact ⟨rfl, rfl⟩)); try dsimp only [thn, inBlk])
    | fail)
  refine AWP.loopR [0, 1, 2, 3, 9, 10] (fun m s h' => ∃ (i : Nat) (done : List (List UInt8)) (rest : List UInt8), i ≤ c ∧ m = c - i ∧ s = ⟨66, [(0, tx rest), (1, .string ⟨#[47]⟩), (2, .int .i64 0), (3, .int .i64 c), (9, .slice (some ⟨h1.next, 0, none⟩) N N), (10, .int .i64 i)]⟩ ∧
    splitB l = done ++ splitB rest ∧ done.length = i ∧ rest.count 47 = c - i ∧ rest.length ≤ l.length ∧ Own O h' (os 9 1 (.slice (some ⟨h1.next, 0, none⟩) N N) N ((done ++ List.replicate (N - i) []).map T) :: R)) ?_ ?_
  · exact ⟨_, 0, [], l, by omega, rfl, rfl, rfl, rfl, by omega, Nat.le_refl _, k1⟩
  rintro m s h2 ⟨i, done, rest, hi, rfl, rfl, hsp, hdl, hrc, hrl, k2⟩
  by_cases hic : i < c
  · have hic' : (i : Int) < c := by omega
    obtain ⟨pre, tail, hpt, hnp, hix⟩ := indexByte_split (bs := rest) (c := 47) (by omega)
    (repeat' first
      | refine AWP.seq ?_
      | refine AWP.block ?_
      | (refine AWP.skip ?_; try dsimp only [thn, inBlk])
      | (refine AWP.exit ?_; try simp only [thn, inBlk, if_true, reduceIte, Nat.reduceEqDiff])
      | (refine AWP.ret ?_; try dsimp only [thn, inBlk])
      | (refine AWP.condT ?_ ?_; (focus (simp [go_sem, hic, hic']; done)))
      | (refine AWP.condF ?_ ?_; (focus (simp [go_sem, hic, hic']; done)))
      | (apply AWP.rE; (focus (simp [go_sem, hic, hic']; exact ⟨rfl, rfl⟩)); try dsimp only [thn, inBlk])
      | fail)
    refine AWP.callE (by simp [go_sem]; exact ⟨rfl, rfl, rfl, rfl, rfl⟩) (by kernel_rfl) ?_
    refine (sindex_calls (by omega)).mono ?_
    rintro r h3 ⟨rfl, rfl⟩
    rw [hix]
    obtain ⟨q, hq⟩ : ∃ q, q = pre.length := ⟨_, rfl⟩
    rw [← hq]
    have hrl2 : rest.length = q + 1 + tail.length := by rw [hpt, List.length_append, List.length_cons, hq]; omega
    obtain ⟨q1, hq1⟩ : ∃ q1, q1 = q + 1 := ⟨_, rfl⟩
    have w4 : IntKind.i64.wrap (q : Int) = (q : Int) := by rw [wI64 (by omega) (by omega)]
    have w5 : IntKind.i64.wrap ((q : Int) + 1) = (q1 : Int) := by rw [wI64 (by omega) (by omega)]; omega
    have w6 : IntKind.i64.wrap ((i : Int) + 1) = ((i + 1 : Nat) : Int) := by rw [wI64 (by omega) (by omega)]; omega
    have s1 : ∀ hh, sliceR Tryz.prog hh 9 (tx rest) none (some (.int .i64 (q : Int))) none = some (tx pre) := fun hh => by
      have := str_slice (P := Tryz.prog) (h := hh) Tryz.underlying9 (l := rest) (lo := 0) (hi := q) (a := none) (u := some (.int .i64 (q : Int))) (by omega) (by omega) (.inl ⟨rfl, rfl⟩) (.inr ⟨.i64, rfl⟩)
      rw [List.drop_zero, hpt, hq, List.take_left] at this
      rw [hpt, hq]; exact this
    have s2 : ∀ hh, sliceR Tryz.prog hh 9 (tx rest) (some (.int .i64 (q1 : Int))) none none = some (tx tail) := fun hh => by
      have := str_slice (P := Tryz.prog) (h := hh) Tryz.underlying9 (l := rest) (lo := q1) (hi := rest.length) (a := some (.int .i64 (q1 : Int))) (u := none) (by omega) (Nat.le_refl _) (.inr ⟨.i64, rfl⟩) (.inl ⟨rfl, rfl⟩)
      have e : rest.drop q1 = tail := by rw [hpt, hq1, hq]; simp
      rw [List.take_length, e] at this
      exact this
    obtain ⟨ia, oa, ca, ta, p0, q0, l0, k4⟩ := k2.ts_write (P := Tryz.prog) (t := 71) (ls := done ++ List.replicate (N - i) []) (by simp; omega) Tryz.underlying71 tsz9 (j := i) (by omega) pre (kd := .i64)
    have l0 : oa + 1 ≤ ca.length := l0
    refine awpL_restE (by simp [go_sem]; exact ⟨rfl, rfl⟩) ?_; try dsimp only [thn, inBlk]
    (repeat' first
      | refine AWP.seq ?_
      | refine AWP.block ?_
      | (refine AWP.skip ?_; try dsimp only [thn, inBlk])
      | (refine AWP.exit ?_; try simp only [thn, inBlk, if_true, reduceIte, Nat.reduceEqDiff])
      | (refine AWP.ret ?_; try dsimp only [thn, inBlk])
      | (refine AWP.condT ?_ ?_; (focus (simp [go_sem, w4, w5, w6, s1, s2, p0, q0, l0]; done)))
      | (refine AWP.condF ?_ ?_; (focus (simp [go_sem, w4, w5, w6, s1, s2, p0, q0, l0]; done)))
      | (apply AWP.rE; (focus (simp [go_sem, w4, w5, w6, s1, s2, p0, q0, l0]; exact ⟨rfl, rfl⟩)); try dsimp only [thn, inBlk])
      | fail)
    refine ⟨c - (i + 1), by omega, i + 1, done ++ [pre], tail, by omega, rfl, by simp [go_sem], ?_, by simp [hdl], ?_, by omega, ?_⟩
    · rw [hsp, hpt, splitB_cut pre tail hnp]; simp
    · have : rest.count 47 = tail.count 47 + 1 := by rw [hpt, List.count_append, List.count_eq_zero.2 hnp, List.count_cons_self]; omega
      omega
    · rw [show N - i = (N - (i + 1)) + 1 by omega, ← hdl, set_rep, hdl] at k4
      exact k4
  · obtain rfl : i = c := by omega
    have hic' : ¬ (i : Int) < i := by omega
    have hr1 := splitB_one rest (by omega)
    rw [hr1] at hsp
    obtain ⟨ia, oa, ca, ta, p0, q0, l0, k4⟩ := k2.ts_write (P := Tryz.prog) (t := 71) (ls := done ++ List.replicate (N - i) []) (by simp; omega) Tryz.underlying71 tsz9 (j := i) (by omega) rest (kd := .i64)
    have l0 : oa + 1 ≤ ca.length := l0
    rw [show N - i = 0 + 1 by omega, ← hdl, set_rep, List.replicate_zero, List.append_nil, ← hsp] at k4
    obtain ⟨v', e5, k5⟩ := k4.os_slice (P := Tryz.prog) (t := 71) Tryz.underlying71 tsz9 (lo := 0) (hi := N) (by omega) (by omega) (l := none) (u := some (.int .i64 N)) (.inl ⟨rfl, rfl⟩) (.inr ⟨.i64, rfl⟩)
    obtain ⟨a9, c9, rfl⟩ := k5.os_val
    (repeat' first
      | refine AWP.seq ?_
      | refine AWP.block ?_
      | (refine AWP.skip ?_; try dsimp only [thn, inBlk])
      | (refine AWP.exit ?_; try simp only [thn, inBlk, if_true, reduceIte, Nat.reduceEqDiff])
      | (refine AWP.ret ?_; try dsimp only [thn, inBlk])
      | (refine AWP.condT ?_ ?_; (focus (simp [go_sem, p0, q0, l0, w1, e5]; done)))
      | (refine AWP.condF ?_ ?_; (focus (simp [go_sem, p0, q0, l0, w1, e5]; done)))
      | (apply AWP.rE; (focus (simp [go_sem, p0, q0, l0, w1, e5]; exact ⟨rfl, rfl⟩)); try dsimp only [thn, inBlk])
      | fail)
    simp [bodyQ, thn, inBlk, resA, resV, go_sem]
    refine ⟨a9, c9, ⟨rfl, by omega, rfl⟩, ?_⟩
    simp only [Nat.mul_one, List.drop_zero, Nat.sub_zero] at k5
    rw [List.take_of_length_le (by simp; omega)] at k5
    rw [txs, hsl, ← hN]
    exact k5
theorem split_calls {O : Old} {h : AHeap} {R : List Chunk} {l : List UInt8} (k : Own O h R) (hm : l.length ≤ 1000000) :
    ACalls Tryz.prog 80 #[tx l, .string ⟨#[47]⟩] h fun r h' => ∃ a cap, r = .slice a (splitB l).length cap ∧ Own O h' (txs (.slice a (splitB l).length cap) (splitB l) :: R) := by
  refine ACalls.of_awp (args := [tx l, .string ⟨#[47]⟩]) (n := 8) Tryz.func80 rfl rfl (by show 2 ≤ 8; omega) ?_
  (repeat' first
    | refine AWP.seq ?_
    | refine AWP.block ?_
    | (refine AWP.skip ?_; try dsimp only [thn, inBlk])
    | (refine AWP.exit ?_; try simp only [thn, inBlk, if_true, reduceIte, Nat.reduceEqDiff])
    | (refine AWP.ret ?_; try dsimp only [thn, inBlk])
    | (refine AWP.condT ?_ ?_; (focus (simp [go_sem]; done)))
    | (refine AWP.condF ?_ ?_; (focus (simp [go_sem]; done)))
    | (apply AWP.rE; (focus (simp [go_sem]; exact ⟨rfl, rfl⟩)); try dsimp only [thn, inBlk])
    | fail)
  refine AWP.callE (by simp [go_sem]; exact ⟨rfl, rfl, rfl, rfl, rfl⟩) (by kernel_rfl) ?_
  refine (gensplit_calls k hm).mono ?_
  rintro r h' ⟨a, cap, rfl, k2⟩
  refine awpL_restE (by simp [go_sem]; exact ⟨rfl, rfl⟩) ?_; try dsimp only [thn, inBlk]
  (repeat' first
    | refine AWP.seq ?_
    | refine AWP.block ?_
    | (refine AWP.skip ?_; try dsimp only [thn, inBlk])
    | (refine AWP.exit ?_; try simp only [thn, inBlk, if_true, reduceIte, Nat.reduceEqDiff])
    | (refine AWP.ret ?_; try dsimp only [thn, inBlk])
    | (refine AWP.condT ?_ ?_; (focus (simp [go_sem]; done)))
    | (refine AWP.condF ?_ ?_; (focus (simp [go_sem]; done)))
    | (apply AWP.rE; (focus (simp [go_sem]; exact ⟨rfl, rfl⟩)); try dsimp only [thn, inBlk])
    | fail)
  simp [bodyQ, thn, inBlk, resA, resV, go_sem]
  exact ⟨a, cap, ⟨rfl, rfl⟩, k2⟩
end L23
end

section
open Go Ab Go.Proofs
namespace L23
set_option autoImplicit false
set_option linter.unusedSimpArgs false
set_option linter.unusedVariables false

/-! ### Names and paths -/
def letter (c : UInt8) : Bool := (decide (97 ≤ c.toNat) && decide (c.toNat ≤ 122)) || (decide (65 ≤ c.toNat) && decide (c.toNat ≤ 90)) || (decide (48 ≤ c.toNat) && decide (c.toNat ≤ 57))
def okc (c : UInt8) : Bool := letter c || c == 45 || c == 46 || c == 95
def nm (l : List UInt8) : Bool := l.all okc && !(l == []) && decide (l.length ≤ 12) && !(l == [46]) && !(l == [46, 46])

theorem bytesA_tx {id : Nat} {l : List UInt8} : bytesA Tryz.prog id 9 32 (tx l) = some (.slice (some ⟨id, 0, none⟩) l.length l.length, .row (l.map B) 5 1 false false) := by
  simp only [bytesA, Tryz.underlying9, Tryz.underlying32, Tryz.underlying5]; rfl
set_option maxHeartbeats 4000000 in
theorem named_calls {O : Old} {h : AHeap} {R : List Chunk} {l : List UInt8} (k : Own O h R) (hm : l.length ≤ 1000000) :
    ACalls Tryz.prog 82 #[tx l] h fun r h' => r = .bool (nm l) ∧ Own O h' R := by
  refine ACalls.of_awp (args := [tx l]) (n := 65) Tryz.func82 rfl rfl (by show 1 ≤ 65; omega) ?_
  have k1 : Own O _ (ob 5 (.slice (some ⟨h.next, 0, none⟩) l.length l.length) l :: R) := (k.push (.row (l.map B) 5 1 false false)).os_mk (n := l.length) (cap := l.length) (off := 0) (cs := l.map B) (Nat.le_refl _) (by simp) (by rw [Nat.mul_one, List.drop_zero, List.take_of_length_le (by simp)])
  (repeat' first
    | refine AWP.seq ?_
    | refine AWP.block ?_
    | (refine AWP.skip ?_; try dsimp only [thn, inBlk])
    | (refine AWP.exit ?_; try simp only [thn, inBlk, if_true, reduceIte, Nat.reduceEqDiff])
    | (refine AWP.ret ?_; try dsimp only [thn, inBlk])
    | (refine AWP.condT ?_ ?_; (focus (simp [go_sem, bytesA_tx]; done)))
    | (refine AWP.condF ?_ ?_; (focus (simp [go_sem, bytesA_tx]; done)))
    | (apply AWP.rE; (focus (simp [go_sem, bytesA_tx]; exact ⟨rfl, rfl⟩)); try dsimp only [thn, inBlk])
    | fail)
  refine AWP.loopR [0, 7, 8, 9] (fun m s h' => ∃ j : Nat, j ≤ l.length ∧ m = l.length - j ∧ s = ⟨65, [(0, tx l), (7, .slice (some ⟨h.next, 0, none⟩) l.length l.length), (8, .int .i64 l.length), (9, .int .i64 j)]⟩ ∧ (l.all okc = (l.drop j).all okc) ∧
    Own O h' (ob 5 (.slice (some ⟨h.next, 0, none⟩) l.length l.length) l :: R)) ?_ ?_
  · exact ⟨_, 0, by omega, rfl, rfl, rfl, k1⟩
  rintro m s h1 ⟨j, hj, rfl, rfl, hI, k2⟩
  by_cases hjm : j < l.length
  rotate_left
  · have hjm' : ¬ (j : Int) < l.length := by omega
    have ha : l.all okc = true := by rw [hI, List.drop_eq_nil_iff.2 (by omega)]; rfl
    by_cases h1 : l = []
    · subst h1
      (repeat' first
        | refine AWP.seq ?_
        | refine AWP.block ?_
        | (refine AWP.skip ?_; try dsimp only [thn, inBlk])
        | (refine AWP.exit ?_; try simp only [thn, inBlk, if_true, reduceIte, Nat.reduceEqDiff])
        | (refine AWP.ret ?_; try dsimp only [thn, inBlk])
        | (refine AWP.condT ?_ ?_; (focus (simp [go_sem, hjm']; done)))
        | (refine AWP.condF ?_ ?_; (focus (simp [go_sem, hjm']; done)))
        | (apply AWP.rE; (focus (simp [go_sem, hjm']; exact ⟨rfl, rfl⟩)); try dsimp only [thn, inBlk])
        | fail)
      simp [bodyQ, thn, inBlk, resA, resV, go_sem]
      exact ⟨rfl, k2.tail⟩
    have h1' : (l == []) = false := by simpa using h1
    by_cases h2 : l.length ≤ 12
    rotate_left
    · have h2' : ¬ (l.length : Int) ≤ 12 := by omega
      have e : nm l = false := by simp [nm, h2]
      rw [e]
      (repeat' first
        | refine AWP.seq ?_
        | refine AWP.block ?_
        | (refine AWP.skip ?_; try dsimp only [thn, inBlk])
        | (refine AWP.exit ?_; try simp only [thn, inBlk, if_true, reduceIte, Nat.reduceEqDiff])
        | (refine AWP.ret ?_; try dsimp only [thn, inBlk])
        | (refine AWP.condT ?_ ?_; (focus (simp [go_sem, hjm', h1', h2']; done)))
        | (refine AWP.condF ?_ ?_; (focus (simp [go_sem, hjm', h1', h2']; done)))
        | (apply AWP.rE; (focus (simp [go_sem, hjm', h1', h2']; exact ⟨rfl, rfl⟩)); try dsimp only [thn, inBlk])
        | fail)
      simp [bodyQ, thn, inBlk, resA, resV, go_sem]
      exact k2.tail
    have h2' : (l.length : Int) ≤ 12 := by omega
    by_cases h3 : l = [46]
    · have h3' : (l == [46]) = true := by simpa using h3
      have e : nm l = false := by simp [nm, h3]
      rw [e]
      (repeat' first
        | refine AWP.seq ?_
        | refine AWP.block ?_
        | (refine AWP.skip ?_; try dsimp only [thn, inBlk])
        | (refine AWP.exit ?_; try simp only [thn, inBlk, if_true, reduceIte, Nat.reduceEqDiff])
        | (refine AWP.ret ?_; try dsimp only [thn, inBlk])
        | (refine AWP.condT ?_ ?_; (focus (simp [go_sem, hjm', h1', h2', h3']; done)))
        | (refine AWP.condF ?_ ?_; (focus (simp [go_sem, hjm', h1', h2', h3']; done)))
        | (apply AWP.rE; (focus (simp [go_sem, hjm', h1', h2', h3']; exact ⟨rfl, rfl⟩)); try dsimp only [thn, inBlk])
        | fail)
      simp [bodyQ, thn, inBlk, resA, resV, go_sem]
      exact k2.tail
    have h3' : (l == [46]) = false := by simpa using h3
    have e : nm l = !(l == [46, 46]) := by simp only [nm, ha, h1', h3', decide_eq_true h2]; simp
    rw [e]
    (repeat' first
      | refine AWP.seq ?_
      | refine AWP.block ?_
      | (refine AWP.skip ?_; try dsimp only [thn, inBlk])
      | (refine AWP.exit ?_; try simp only [thn, inBlk, if_true, reduceIte, Nat.reduceEqDiff])
      | (refine AWP.ret ?_; try dsimp only [thn, inBlk])
      | (refine AWP.condT ?_ ?_; (focus (simp [go_sem, hjm', h1', h2', h3']; done)))
      | (refine AWP.condF ?_ ?_; (focus (simp [go_sem, hjm', h1', h2', h3']; done)))
      | (apply AWP.rE; (focus (simp [go_sem, hjm', h1', h2', h3']; exact ⟨rfl, rfl⟩)); try dsimp only [thn, inBlk])
      | fail)
    simp [bodyQ, thn, inBlk, resA, resV, go_sem]
    exact k2.tail
  have hjm' : (j : Int) < l.length := by omega
  obtain ⟨i0, o0, r0, e0, z0, ti0, ro0, p0, q0, g0⟩ := k2.ob_bytes.at (P := Tryz.prog) (t := 32) Tryz.underlying32 tsz5 (j := j) hjm (kd := .i64)
  have hdr : l.drop j = l[j] :: l.drop (j + 1) := List.drop_eq_getElem_cons hjm
  obtain ⟨c, hcc⟩ : ∃ c, c = l[j] := ⟨_, rfl⟩
  simp only [← hcc] at g0 hdr
  rw [hdr, List.all_cons] at hI
  have w1 : IntKind.i64.wrap ((j : Int) + 1) = ((j + 1 : Nat) : Int) := by rw [wI64 (by omega) (by omega)]; omega
  (repeat' first
    | refine AWP.seq ?_
    | refine AWP.block ?_
    | (refine AWP.skip ?_; try dsimp only [thn, inBlk])
    | (refine AWP.exit ?_; try simp only [thn, inBlk, if_true, reduceIte, Nat.reduceEqDiff])
    | (refine AWP.ret ?_; try dsimp only [thn, inBlk])
    | (refine AWP.condT ?_ ?_; (focus (simp [go_sem, hjm', p0, q0, g0]; done)))
    | (refine AWP.condF ?_ ?_; (focus (simp [go_sem, hjm', p0, q0, g0]; done)))
    | (apply AWP.rE; (focus (simp [go_sem, hjm', p0, q0, g0]; exact ⟨rfl, rfl⟩)); try dsimp only [thn, inBlk])
    | fail)
  refine AWP.cutT [0, 4, 5, 7, 8, 9] (fun s h' => s = ⟨65, [(0, tx l), (4, .int .u8 c.toNat), (5, .bool (letter c)), (7, .slice (some ⟨h.next, 0, none⟩) l.length l.length), (8, .int .i64 l.length), (9, .int .i64 j)]⟩ ∧ h' = h1) ?_ ?_
  · by_cases a1 : (97 : Int) ≤ c.toNat
    · by_cases a2 : (c.toNat : Int) ≤ 122
      · have a3 : True := trivial
        have e : letter c = true := by simp [letter]; omega
        rw [e]
        (repeat' first
          | refine AWP.seq ?_
          | refine AWP.block ?_
          | (refine AWP.skip ?_; try dsimp only [thn, inBlk])
          | (refine AWP.exit ?_; try simp only [thn, inBlk, if_true, reduceIte, Nat.reduceEqDiff])
          | (refine AWP.ret ?_; try dsimp only [thn, inBlk])
          | (refine AWP.condT ?_ ?_; (focus (simp [go_sem, a1, a2]; done)))
          | (refine AWP.condF ?_ ?_; (focus (simp [go_sem, a1, a2]; done)))
          | (apply AWP.rE; (focus (simp [go_sem, a1, a2]; exact ⟨rfl, rfl⟩)); try dsimp only [thn, inBlk])
          | fail)
        exact ⟨by simp [go_sem], rfl⟩
      · have a3 : (65 : Int) ≤ c.toNat := by omega
        have a4 : ¬ (c.toNat : Int) ≤ 90 := by omega
        have a5 : (48 : Int) ≤ c.toNat := by omega
        have a6 : ¬ (c.toNat : Int) ≤ 57 := by omega
        have e : letter c = false := by simp [letter]; omega
        rw [e]
        (repeat' first
          | refine AWP.seq ?_
          | refine AWP.block ?_
          | (refine AWP.skip ?_; try dsimp only [thn, inBlk])
          | (refine AWP.exit ?_; try simp only [thn, inBlk, if_true, reduceIte, Nat.reduceEqDiff])
          | (refine AWP.ret ?_; try dsimp only [thn, inBlk])
          | (refine AWP.condT ?_ ?_; (focus (simp [go_sem, a1, a2, a3, a4, a5, a6]; done)))
          | (refine AWP.condF ?_ ?_; (focus (simp [go_sem, a1, a2, a3, a4, a5, a6]; done)))
          | (apply AWP.rE; (focus (simp [go_sem, a1, a2, a3, a4, a5, a6]; exact ⟨rfl, rfl⟩)); try dsimp only [thn, inBlk])
          | fail)
        exact ⟨by simp [go_sem], rfl⟩
    · by_cases a3 : (65 : Int) ≤ c.toNat
      · by_cases a4 : (c.toNat : Int) ≤ 90
        · have a5 : True := trivial
          have e : letter c = true := by simp [letter]; omega
          rw [e]
          (repeat' first
            | refine AWP.seq ?_
            | refine AWP.block ?_
            | (refine AWP.skip ?_; try dsimp only [thn, inBlk])
            | (refine AWP.exit ?_; try simp only [thn, inBlk, if_true, reduceIte, Nat.reduceEqDiff])
            | (refine AWP.ret ?_; try dsimp only [thn, inBlk])
            | (refine AWP.condT ?_ ?_; (focus (simp [go_sem, a1, a3, a4]; done)))
            | (refine AWP.condF ?_ ?_; (focus (simp [go_sem, a1, a3, a4]; done)))
            | (apply AWP.rE; (focus (simp [go_sem, a1, a3, a4]; exact ⟨rfl, rfl⟩)); try dsimp only [thn, inBlk])
            | fail)
          exact ⟨by simp [go_sem], rfl⟩
        · have a5 : (48 : Int) ≤ c.toNat := by omega
          have a6 : ¬ (c.toNat : Int) ≤ 57 := by omega
          have e : letter c = false := by simp [letter]; omega
          rw [e]
          (repeat' first
            | refine AWP.seq ?_
            | refine AWP.block ?_
            | (refine AWP.skip ?_; try dsimp only [thn, inBlk])
            | (refine AWP.exit ?_; try simp only [thn, inBlk, if_true, reduceIte, Nat.reduceEqDiff])
            | (refine AWP.ret ?_; try dsimp only [thn, inBlk])
            | (refine AWP.condT ?_ ?_; (focus (simp [go_sem, a1, a3, a4, a5, a6]; done)))
            | (refine AWP.condF ?_ ?_; (focus (simp [go_sem, a1, a3, a4, a5, a6]; done)))
            | (apply AWP.rE; (focus (simp [go_sem, a1, a3, a4, a5, a6]; exact ⟨rfl, rfl⟩)); try dsimp only [thn, inBlk])
            | fail)
          exact ⟨by simp [go_sem], rfl⟩
      · by_cases a5 : (48 : Int) ≤ c.toNat
        · by_cases a6 : (c.toNat : Int) ≤ 57
          · have a7 : True := trivial
            have e : letter c = true := by simp [letter]; omega
            rw [e]
            (repeat' first
              | refine AWP.seq ?_
              | refine AWP.block ?_
              | (refine AWP.skip ?_; try dsimp only [thn, inBlk])
              | (refine AWP.exit ?_; try simp only [thn, inBlk, if_true, reduceIte, Nat.reduceEqDiff])
              | (refine AWP.ret ?_; try dsimp only [thn, inBlk])
              | (refine AWP.condT ?_ ?_; (focus (simp [go_sem, a1, a3, a5, a6]; done)))
              | (refine AWP.condF ?_ ?_; (focus (simp [go_sem, a1, a3, a5, a6]; done)))
              | (apply AWP.rE; (focus (simp [go_sem, a1, a3, a5, a6]; exact ⟨rfl, rfl⟩)); try dsimp only [thn, inBlk])
              | fail)
            exact ⟨by simp [go_sem], rfl⟩
          · have a7 : True := trivial
            have e : letter c = false := by simp [letter]; omega
            rw [e]
            (repeat' first
              | refine AWP.seq ?_
              | refine AWP.block ?_
              | (refine AWP.skip ?_; try dsimp only [thn, inBlk])
              | (refine AWP.exit ?_; try simp only [thn, inBlk, if_true, reduceIte, Nat.reduceEqDiff])
              | (refine AWP.ret ?_; try dsimp only [thn, inBlk])
              | (refine AWP.condT ?_ ?_; (focus (simp [go_sem, a1, a3, a5, a6]; done)))
              | (refine AWP.condF ?_ ?_; (focus (simp [go_sem, a1, a3, a5, a6]; done)))
              | (apply AWP.rE; (focus (simp [go_sem, a1, a3, a5, a6]; exact ⟨rfl, rfl⟩)); try dsimp only [thn, inBlk])
              | fail)
            exact ⟨by simp [go_sem], rfl⟩
        · have a7 : True := trivial
          have e : letter c = false := by simp [letter]; omega
          rw [e]
          (repeat' first
            | refine AWP.seq ?_
            | refine AWP.block ?_
            | (refine AWP.skip ?_; try dsimp only [thn, inBlk])
            | (refine AWP.exit ?_; try simp only [thn, inBlk, if_true, reduceIte, Nat.reduceEqDiff])
            | (refine AWP.ret ?_; try dsimp only [thn, inBlk])
            | (refine AWP.condT ?_ ?_; (focus (simp [go_sem, a1, a3, a5]; done)))
            | (refine AWP.condF ?_ ?_; (focus (simp [go_sem, a1, a3, a5]; done)))
            | (apply AWP.rE; (focus (simp [go_sem, a1, a3, a5]; exact ⟨rfl, rfl⟩)); try dsimp only [thn, inBlk])
            | fail)
          exact ⟨by simp [go_sem], rfl⟩
  · rintro s h2 ⟨rfl, rfl⟩
    by_cases b1 : letter c = true
    · have b2 : True := trivial
      have e : okc c = true := by simp [okc, b1]
      rw [e, Bool.true_and] at hI
      (repeat' first
        | refine AWP.seq ?_
        | refine AWP.block ?_
        | (refine AWP.skip ?_; try dsimp only [thn, inBlk])
        | (refine AWP.exit ?_; try simp only [thn, inBlk, if_true, reduceIte, Nat.reduceEqDiff])
        | (refine AWP.ret ?_; try dsimp only [thn, inBlk])
        | (refine AWP.condT ?_ ?_; (focus (simp [go_sem, b1, b2, w1]; done)))
        | (refine AWP.condF ?_ ?_; (focus (simp [go_sem, b1, b2, w1]; done)))
        | (apply AWP.rE; (focus (simp [go_sem, b1, b2, w1]; exact ⟨rfl, rfl⟩)); try dsimp only [thn, inBlk])
        | fail)
      exact ⟨l.length - (j + 1), by omega, j + 1, by omega, rfl, by simp [go_sem], hI, k2⟩
    have b1 : letter c = false := by simpa using b1
    by_cases c1 : c = 45
    · have c1' : ((c.toNat : Int) != 45) = false := by rw [c1]; rfl
      have e : okc c = true := by simp [okc, c1]
      rw [e, Bool.true_and] at hI
      (repeat' first
        | refine AWP.seq ?_
        | refine AWP.block ?_
        | (refine AWP.skip ?_; try dsimp only [thn, inBlk])
        | (refine AWP.exit ?_; try simp only [thn, inBlk, if_true, reduceIte, Nat.reduceEqDiff])
        | (refine AWP.ret ?_; try dsimp only [thn, inBlk])
        | (refine AWP.condT ?_ ?_; (focus (simp [go_sem, b1, c1', w1]; done)))
        | (refine AWP.condF ?_ ?_; (focus (simp [go_sem, b1, c1', w1]; done)))
        | (apply AWP.rE; (focus (simp [go_sem, b1, c1', w1]; exact ⟨rfl, rfl⟩)); try dsimp only [thn, inBlk])
        | fail)
      exact ⟨l.length - (j + 1), by omega, j + 1, by omega, rfl, by simp [go_sem], hI, k2⟩
    have c1' : ((c.toNat : Int) != 45) = true := by have := neB (d := 45) c1; simp at this ⊢; omega
    by_cases c2 : c = 46
    · have c2' : ((c.toNat : Int) != 46) = false := by rw [c2]; rfl
      have e : okc c = true := by simp [okc, c2]
      rw [e, Bool.true_and] at hI
      (repeat' first
        | refine AWP.seq ?_
        | refine AWP.block ?_
        | (refine AWP.skip ?_; try dsimp only [thn, inBlk])
        | (refine AWP.exit ?_; try simp only [thn, inBlk, if_true, reduceIte, Nat.reduceEqDiff])
        | (refine AWP.ret ?_; try dsimp only [thn, inBlk])
        | (refine AWP.condT ?_ ?_; (focus (simp [go_sem, b1, c1', c2', w1]; done)))
        | (refine AWP.condF ?_ ?_; (focus (simp [go_sem, b1, c1', c2', w1]; done)))
        | (apply AWP.rE; (focus (simp [go_sem, b1, c1', c2', w1]; exact ⟨rfl, rfl⟩)); try dsimp only [thn, inBlk])
        | fail)
      exact ⟨l.length - (j + 1), by omega, j + 1, by omega, rfl, by simp [go_sem], hI, k2⟩
    have c2' : ((c.toNat : Int) != 46) = true := by have := neB (d := 46) c2; simp at this ⊢; omega
    by_cases c3 : c = 95
    · have c3' : ((c.toNat : Int) != 95) = false := by rw [c3]; rfl
      have e : okc c = true := by simp [okc, c3]
      rw [e, Bool.true_and] at hI
      (repeat' first
        | refine AWP.seq ?_
        | refine AWP.block ?_
        | (refine AWP.skip ?_; try dsimp only [thn, inBlk])
        | (refine AWP.exit ?_; try simp only [thn, inBlk, if_true, reduceIte, Nat.reduceEqDiff])
        | (refine AWP.ret ?_; try dsimp only [thn, inBlk])
        | (refine AWP.condT ?_ ?_; (focus (simp [go_sem, b1, c1', c2', c3', w1]; done)))
        | (refine AWP.condF ?_ ?_; (focus (simp [go_sem, b1, c1', c2', c3', w1]; done)))
        | (apply AWP.rE; (focus (simp [go_sem, b1, c1', c2', c3', w1]; exact ⟨rfl, rfl⟩)); try dsimp only [thn, inBlk])
        | fail)
      exact ⟨l.length - (j + 1), by omega, j + 1, by omega, rfl, by simp [go_sem], hI, k2⟩
    have c3' : ((c.toNat : Int) != 95) = true := by have := neB (d := 95) c3; simp at this ⊢; omega
    have e : okc c = false := by simp [okc, b1, c1, c2, c3]
    have e2 : nm l = false := by simp only [nm, hI, e]; simp
    rw [e2]
    (repeat' first
      | refine AWP.seq ?_
      | refine AWP.block ?_
      | (refine AWP.skip ?_; try dsimp only [thn, inBlk])
      | (refine AWP.exit ?_; try simp only [thn, inBlk, if_true, reduceIte, Nat.reduceEqDiff])
      | (refine AWP.ret ?_; try dsimp only [thn, inBlk])
      | (refine AWP.condT ?_ ?_; (focus (simp [go_sem, b1, c1', c2', c3']; done)))
      | (refine AWP.condF ?_ ?_; (focus (simp [go_sem, b1, c1', c2', c3']; done)))
      | (apply AWP.rE; (focus (simp [go_sem, b1, c1', c2', c3']; exact ⟨rfl, rfl⟩)); try dsimp only [thn, inBlk])
      | fail)
    simp [bodyQ, thn, inBlk, resA, resV, go_sem]
    exact k2.tail
end L23
end

section
open Go Ab Go.Proofs
namespace L23
set_option autoImplicit false
set_option linter.unusedSimpArgs false
set_option linter.unusedVariables false

abbrev FN : Value := .func (.func 81) #[] #[]
theorem fn_calls {O : Old} {h : AHeap} {R : List Chunk} {l : List UInt8} (k : Own O h R) (hm : l.length ≤ 1000000) :
    ACalls Tryz.prog 81 #[tx l] h fun r h' => r = .bool (!(nm l)) ∧ Own O h' R := by
  refine ACalls.of_awp (args := [tx l]) (n := 6) Tryz.func81 rfl rfl (by show 1 ≤ 6; omega) ?_
  (repeat' first
    | refine AWP.seq ?_
    | refine AWP.block ?_
    | (refine AWP.skip ?_; try dsimp only [thn, inBlk])
    | (refine AWP.exit ?_; try simp only [thn, inBlk, if_true, reduceIte, Nat.reduceEqDiff])
    | (refine AWP.ret ?_; try dsimp only [thn, inBlk])
    | (refine AWP.condT ?_ ?_; (focus (simp [go_sem]; done)))
    | (refine AWP.condF ?_ ?_; (focus (simp [go_sem]; done)))
    | (apply AWP.rE; (focus (simp [go_sem]; exact ⟨rfl, rfl⟩)); try dsimp only [thn, inBlk])
    | fail)
  refine AWP.callE (by simp [go_sem]; exact ⟨rfl, rfl, rfl, rfl, rfl⟩) (by kernel_rfl) ?_
  refine (named_calls k hm).mono ?_
  rintro r h' ⟨rfl, k2⟩
  refine awpL_restE (by simp [go_sem]; exact ⟨rfl, rfl⟩) ?_; try dsimp only [thn, inBlk]
  (repeat' first
    | refine AWP.seq ?_
    | refine AWP.block ?_
    | (refine AWP.skip ?_; try dsimp only [thn, inBlk])
    | (refine AWP.exit ?_; try simp only [thn, inBlk, if_true, reduceIte, Nat.reduceEqDiff])
    | (refine AWP.ret ?_; try dsimp only [thn, inBlk])
    | (refine AWP.condT ?_ ?_; (focus (simp [go_sem]; done)))
    | (refine AWP.condF ?_ ?_; (focus (simp [go_sem]; done)))
    | (apply AWP.rE; (focus (simp [go_sem]; exact ⟨rfl, rfl⟩)); try dsimp only [thn, inBlk])
    | fail)
  simp [bodyQ, thn, inBlk, resA, resV, go_sem]
  exact k2
set_option maxHeartbeats 4000000 in
theorem indexfunc_calls {O : Old} {h : AHeap} {R : List Chunk} {v : Value} {ls : List (List UInt8)} (k : Own O h (txs v ls :: R)) (hl : ls.length ≤ 1000000) (hm : ∀ l ∈ ls, l.length ≤ 1000000) :
    ACalls Tryz.prog 105 #[v, FN] h fun r h' => ∃ z : Int, r = .int .i64 z ∧ decide (0 ≤ z) = !(ls.all nm) ∧ Own O h' (txs v ls :: R) := by
  obtain ⟨va, vc, rfl⟩ := k.os_val
  refine ACalls.of_awp (args := [.slice va ls.length vc, FN]) (n := 19) Tryz.func105 rfl rfl (by show 2 ≤ 19; omega) ?_
  (repeat' first
    | refine AWP.seq ?_
    | refine AWP.block ?_
    | (refine AWP.skip ?_; try dsimp only [thn, inBlk])
    | (refine AWP.exit ?_; try simp only [thn, inBlk, if_true, reduceIte, Nat.reduceEqDiff])
    | (refine AWP.ret ?_; try dsimp only [thn, inBlk])
    | (refine AWP.condT ?_ ?_; (focus (simp [go_sem]; done)))
    | (refine AWP.condF ?_ ?_; (focus (simp [go_sem]; done)))
    | (apply AWP.rE; (focus (simp [go_sem]; exact ⟨rfl, rfl⟩)); try dsimp only [thn, inBlk])
    | fail)
  refine AWP.loopR [0, 1, 7, 8] (fun m s h' => ∃ j : Nat, j ≤ ls.length ∧ m = ls.length - j ∧ s = ⟨19, [(0, .slice va ls.length vc), (1, FN), (7, .int .i64 ls.length), (8, .int .i64 j)]⟩ ∧ (ls.all nm = (ls.drop j).all nm) ∧ Own O h' (txs (.slice va ls.length vc) ls :: R)) ?_ ?_
  · exact ⟨_, 0, by omega, rfl, rfl, rfl, k⟩
  rintro m s h1 ⟨j, hj, rfl, rfl, hI, k2⟩
  by_cases hjm : j < ls.length
  rotate_left
  · have hjm' : ¬ (j : Int) < ls.length := by omega
    have ha : ls.all nm = true := by rw [hI, List.drop_eq_nil_iff.2 (by omega)]; rfl
    (repeat' first
      | refine AWP.seq ?_
      | refine AWP.block ?_
      | (refine AWP.skip ?_; try dsimp only [thn, inBlk])
      | (refine AWP.exit ?_; try simp only [thn, inBlk, if_true, reduceIte, Nat.reduceEqDiff])
      | (refine AWP.ret ?_; try dsimp only [thn, inBlk])
      | (refine AWP.condT ?_ ?_; (focus (simp [go_sem, hjm']; done)))
      | (refine AWP.condF ?_ ?_; (focus (simp [go_sem, hjm']; done)))
      | (apply AWP.rE; (focus (simp [go_sem, hjm']; exact ⟨rfl, rfl⟩)); try dsimp only [thn, inBlk])
      | fail)
    simp [bodyQ, thn, inBlk, resA, resV, go_sem]
    exact ⟨by simpa using ha, k2⟩
  have hjm' : (j : Int) < ls.length := by omega
  have hg : (ls.map T)[j]? = some (tx ls[j]) := by simp [hjm, T]
  obtain ⟨bi, bo, c, e', sz, ti, ro, q1, q2, q3⟩ := k2.os_sl.at1 (P := Tryz.prog) (t := 71) Tryz.underlying71 tsz9 hjm hg (kd := .i64)
  have hdr : ls.drop j = ls[j] :: ls.drop (j + 1) := List.drop_eq_getElem_cons hjm
  have hml := hm ls[j] (List.getElem_mem _)
  generalize ls[j] = x at q3 hdr hml
  rw [hdr, List.all_cons] at hI
  have w1 : IntKind.i64.wrap ((j : Int) + 1) = ((j + 1 : Nat) : Int) := by rw [wI64 (by omega) (by omega)]; omega
  (repeat' first
    | refine AWP.seq ?_
    | refine AWP.block ?_
    | (refine AWP.skip ?_; try dsimp only [thn, inBlk])
    | (refine AWP.exit ?_; try simp only [thn, inBlk, if_true, reduceIte, Nat.reduceEqDiff])
    | (refine AWP.ret ?_; try dsimp only [thn, inBlk])
    | (refine AWP.condT ?_ ?_; (focus (simp [go_sem, hjm']; done)))
    | (refine AWP.condF ?_ ?_; (focus (simp [go_sem, hjm']; done)))
    | (apply AWP.rE; (focus (simp [go_sem, hjm']; exact ⟨rfl, rfl⟩)); try dsimp only [thn, inBlk])
    | fail)
  refine AWP.callE (by simp [go_sem, q1, q2, q3]; exact ⟨rfl, rfl, rfl, rfl, rfl⟩) (by kernel_rfl) ?_
  refine (fn_calls k2 hml).mono ?_
  rintro r h2 ⟨rfl, k3⟩
  cases hx : nm x
  · refine awpL_restE (by simp [go_sem]; exact ⟨rfl, rfl⟩) ?_; try dsimp only [thn, inBlk]
    rw [hx, Bool.false_and] at hI
    (repeat' first
      | refine AWP.seq ?_
      | refine AWP.block ?_
      | (refine AWP.skip ?_; try dsimp only [thn, inBlk])
      | (refine AWP.exit ?_; try simp only [thn, inBlk, if_true, reduceIte, Nat.reduceEqDiff])
      | (refine AWP.ret ?_; try dsimp only [thn, inBlk])
      | (refine AWP.condT ?_ ?_; (focus (simp [go_sem]; done)))
      | (refine AWP.condF ?_ ?_; (focus (simp [go_sem]; done)))
      | (apply AWP.rE; (focus (simp [go_sem]; exact ⟨rfl, rfl⟩)); try dsimp only [thn, inBlk])
      | fail)
    simp [bodyQ, thn, inBlk, resA, resV, go_sem]
    exact ⟨by simpa using hI, k3⟩
  · refine awpL_restE (by simp [go_sem]; exact ⟨rfl, rfl⟩) ?_; try dsimp only [thn, inBlk]
    rw [hx, Bool.true_and] at hI
    (repeat' first
      | refine AWP.seq ?_
      | refine AWP.block ?_
      | (refine AWP.skip ?_; try dsimp only [thn, inBlk])
      | (refine AWP.exit ?_; try simp only [thn, inBlk, if_true, reduceIte, Nat.reduceEqDiff])
      | (refine AWP.ret ?_; try dsimp only [thn, inBlk])
      | (refine AWP.condT ?_ ?_; (focus (simp [go_sem, w1]; done)))
      | (refine AWP.condF ?_ ?_; (focus (simp [go_sem, w1]; done)))
      | (apply AWP.rE; (focus (simp [go_sem, w1]; exact ⟨rfl, rfl⟩)); try dsimp only [thn, inBlk])
      | fail)
    exact ⟨ls.length - (j + 1), by omega, j + 1, by omega, rfl, by simp [go_sem], hI, k3⟩
theorem containsfunc_calls {O : Old} {h : AHeap} {R : List Chunk} {v : Value} {ls : List (List UInt8)} (k : Own O h (txs v ls :: R)) (hl : ls.length ≤ 1000000) (hm : ∀ l ∈ ls, l.length ≤ 1000000) :
    ACalls Tryz.prog 83 #[v, FN] h fun r h' => r = .bool (!(ls.all nm)) ∧ Own O h' (txs v ls :: R) := by
  obtain ⟨va, vc, rfl⟩ := k.os_val
  refine ACalls.of_awp (args := [.slice va ls.length vc, FN]) (n := 9) Tryz.func83 rfl rfl (by show 2 ≤ 9; omega) ?_
  (repeat' first
    | refine AWP.seq ?_
    | refine AWP.block ?_
    | (refine AWP.skip ?_; try dsimp only [thn, inBlk])
    | (refine AWP.exit ?_; try simp only [thn, inBlk, if_true, reduceIte, Nat.reduceEqDiff])
    | (refine AWP.ret ?_; try dsimp only [thn, inBlk])
    | (refine AWP.condT ?_ ?_; (focus (simp [go_sem]; done)))
    | (refine AWP.condF ?_ ?_; (focus (simp [go_sem]; done)))
    | (apply AWP.rE; (focus (simp [go_sem]; exact ⟨rfl, rfl⟩)); try dsimp only [thn, inBlk])
    | fail)
  refine AWP.callE (by simp [go_sem]; exact ⟨rfl, rfl, rfl, rfl, rfl⟩) (by kernel_rfl) ?_
  refine (indexfunc_calls k hl hm).mono ?_
  rintro r h2 ⟨z, rfl, hz, k3⟩
  rw [← hz]
  refine awpL_restE (by simp [go_sem]; exact ⟨rfl, rfl⟩) ?_; try dsimp only [thn, inBlk]
  (repeat' first
    | refine AWP.seq ?_
    | refine AWP.block ?_
    | (refine AWP.skip ?_; try dsimp only [thn, inBlk])
    | (refine AWP.exit ?_; try simp only [thn, inBlk, if_true, reduceIte, Nat.reduceEqDiff])
    | (refine AWP.ret ?_; try dsimp only [thn, inBlk])
    | (refine AWP.condT ?_ ?_; (focus (simp [go_sem]; done)))
    | (refine AWP.condF ?_ ?_; (focus (simp [go_sem]; done)))
    | (apply AWP.rE; (focus (simp [go_sem]; exact ⟨rfl, rfl⟩)); try dsimp only [thn, inBlk])
    | fail)
  simp [bodyQ, thn, inBlk, resA, resV, go_sem]
  exact k3

/-- Is a text a path? -/
def pathB (l : List UInt8) : Bool := l == [47] || ((cut47 l).2 && decide ((splitB (cut47 l).1).length ≤ 6) && (splitB (cut47 l).1).all nm)
theorem cut47_len (l : List UInt8) : (cut47 l).1.length ≤ l.length := by
  rcases l with _ | ⟨c, l⟩
  · exact Nat.le_refl _
  · rw [cut47]; split <;> simp
theorem splitB_short : ∀ (l : List UInt8), ∀ x ∈ splitB l, x.length ≤ l.length
  | [], x, h => by simp [splitB] at h; rw [h]; exact Nat.le_refl _
  | c :: l, x, h => by
    have ih := splitB_short l
    rw [splitB] at h
    split at h
    · rcases List.mem_cons.1 h with rfl | h
      · simp
      · have := ih x h; simp; omega
    · match hs : splitB l with
      | [] => rw [hs] at h; simp at h; rw [h]; simp
      | y :: r =>
        rw [hs] at h ih
        rcases List.mem_cons.1 h with rfl | h
        · have := ih y (by simp); simp; omega
        · have := ih x (by simp [h]); simp; omega
set_option maxHeartbeats 4000000 in
theorem path_calls {O : Old} {h : AHeap} {R : List Chunk} {l : List UInt8} (k : Own O h R) (hm : l.length ≤ 900000) :
    ACalls Tryz.prog 61 #[tx l] h fun r h' => r = .bool (pathB l) ∧ Own O h' R := by
  refine ACalls.of_awp (args := [tx l]) (n := 30) Tryz.func61 rfl rfl (by show 1 ≤ 30; omega) ?_
  have hcl := cut47_len l
  (repeat' first
    | refine AWP.seq ?_
    | refine AWP.block ?_
    | (refine AWP.skip ?_; try dsimp only [thn, inBlk])
    | (refine AWP.exit ?_; try simp only [thn, inBlk, if_true, reduceIte, Nat.reduceEqDiff])
    | (refine AWP.ret ?_; try dsimp only [thn, inBlk])
    | (refine AWP.condT ?_ ?_; (focus (simp [go_sem]; done)))
    | (refine AWP.condF ?_ ?_; (focus (simp [go_sem]; done)))
    | (apply AWP.rE; (focus (simp [go_sem]; exact ⟨rfl, rfl⟩)); try dsimp only [thn, inBlk])
    | fail)
  refine AWP.callE (by simp [go_sem]; exact ⟨rfl, rfl, rfl, rfl, rfl⟩) (by kernel_rfl) ?_
  refine (cutprefix_calls (l := l)).mono ?_
  rintro r h1 ⟨rfl, rfl⟩
  obtain ⟨q, b, hq⟩ : ∃ q b, cut47 l = (q, b) := ⟨_, _, rfl⟩
  have hpb : pathB l = (l == [47] || (b && decide ((splitB q).length ≤ 6) && (splitB q).all nm)) := by simp only [pathB, hq]
  rw [hq] at hcl ⊢
  dsimp only at hcl
  refine awpL_restE (by simp [go_sem]; exact ⟨rfl, rfl⟩) ?_; try dsimp only [thn, inBlk]
  (repeat' first
    | refine AWP.seq ?_
    | refine AWP.block ?_
    | (refine AWP.skip ?_; try dsimp only [thn, inBlk])
    | (refine AWP.exit ?_; try simp only [thn, inBlk, if_true, reduceIte, Nat.reduceEqDiff])
    | (refine AWP.ret ?_; try dsimp only [thn, inBlk])
    | (refine AWP.condT ?_ ?_; (focus (simp [go_sem]; done)))
    | (refine AWP.condF ?_ ?_; (focus (simp [go_sem]; done)))
    | (apply AWP.rE; (focus (simp [go_sem]; exact ⟨rfl, rfl⟩)); try dsimp only [thn, inBlk])
    | fail)
  refine AWP.callE (by simp [go_sem]; exact ⟨rfl, rfl, rfl, rfl, rfl⟩) (by kernel_rfl) ?_
  refine (split_calls k (l := q) (by omega)).mono ?_
  rintro r h2 ⟨a, cap, rfl, k2⟩
  have hsl := splitB_length q
  have hcc : q.count 47 ≤ q.length := List.count_le_length
  have hss := splitB_short q
  generalize splitB q = ls at k2 hpb hsl hss ⊢
  refine awpL_restE (by simp [go_sem]; exact ⟨rfl, rfl⟩) ?_; try dsimp only [thn, inBlk]
  by_cases h1 : l = [47]
  · have h1' : (l == [47]) = true := by simpa using h1
    rw [hpb, h1']
    (repeat' first
      | refine AWP.seq ?_
      | refine AWP.block ?_
      | (refine AWP.skip ?_; try dsimp only [thn, inBlk])
      | (refine AWP.exit ?_; try simp only [thn, inBlk, if_true, reduceIte, Nat.reduceEqDiff])
      | (refine AWP.ret ?_; try dsimp only [thn, inBlk])
      | (refine AWP.condT ?_ ?_; (focus (simp [go_sem, h1']; done)))
      | (refine AWP.condF ?_ ?_; (focus (simp [go_sem, h1']; done)))
      | (apply AWP.rE; (focus (simp [go_sem, h1']; exact ⟨rfl, rfl⟩)); try dsimp only [thn, inBlk])
      | fail)
    simp [bodyQ, thn, inBlk, resA, resV, go_sem]
    exact k2.tail
  have h1' : (l == [47]) = false := by simpa using h1
  rw [hpb, h1', Bool.false_or]
  cases b
  · (repeat' first
      | refine AWP.seq ?_
      | refine AWP.block ?_
      | (refine AWP.skip ?_; try dsimp only [thn, inBlk])
      | (refine AWP.exit ?_; try simp only [thn, inBlk, if_true, reduceIte, Nat.reduceEqDiff])
      | (refine AWP.ret ?_; try dsimp only [thn, inBlk])
      | (refine AWP.condT ?_ ?_; (focus (simp [go_sem, h1']; done)))
      | (refine AWP.condF ?_ ?_; (focus (simp [go_sem, h1']; done)))
      | (apply AWP.rE; (focus (simp [go_sem, h1']; exact ⟨rfl, rfl⟩)); try dsimp only [thn, inBlk])
      | fail)
    simp [bodyQ, thn, inBlk, resA, resV, go_sem]
    exact k2.tail
  by_cases h6 : ls.length ≤ 6
  rotate_left
  · have h6' : ¬ (ls.length : Int) ≤ 6 := by omega
    rw [decide_eq_false h6]
    (repeat' first
      | refine AWP.seq ?_
      | refine AWP.block ?_
      | (refine AWP.skip ?_; try dsimp only [thn, inBlk])
      | (refine AWP.exit ?_; try simp only [thn, inBlk, if_true, reduceIte, Nat.reduceEqDiff])
      | (refine AWP.ret ?_; try dsimp only [thn, inBlk])
      | (refine AWP.condT ?_ ?_; (focus (simp [go_sem, h1', h6']; done)))
      | (refine AWP.condF ?_ ?_; (focus (simp [go_sem, h1', h6']; done)))
      | (apply AWP.rE; (focus (simp [go_sem, h1', h6']; exact ⟨rfl, rfl⟩)); try dsimp only [thn, inBlk])
      | fail)
    simp [bodyQ, thn, inBlk, resA, resV, go_sem]
    exact k2.tail
  have h6' : (ls.length : Int) ≤ 6 := by omega
  rw [decide_eq_true h6]
  (repeat' first
    | refine AWP.seq ?_
    | refine AWP.block ?_
    | (refine AWP.skip ?_; try dsimp only [thn, inBlk])
    | (refine AWP.exit ?_; try simp only [thn, inBlk, if_true, reduceIte, Nat.reduceEqDiff])
    | (refine AWP.ret ?_; try dsimp only [thn, inBlk])
    | (refine AWP.condT ?_ ?_; (focus (simp [go_sem, h1', h6']; done)))
    | (refine AWP.condF ?_ ?_; (focus (simp [go_sem, h1', h6']; done)))
    | (apply AWP.rE; (focus (simp [go_sem, h1', h6']; exact ⟨rfl, rfl⟩)); try dsimp only [thn, inBlk])
    | fail)
  refine AWP.callE (by simp [go_sem, h1', h6']; exact ⟨rfl, rfl, rfl, rfl, rfl⟩) (by kernel_rfl) ?_
  refine (containsfunc_calls k2 (by omega) (fun x hx => by have := hss x hx; omega)).mono ?_
  rintro r h3 ⟨rfl, k3⟩
  refine awpL_restE (by simp [go_sem]; exact ⟨rfl, rfl⟩) ?_; try dsimp only [thn, inBlk]
  (repeat' first
    | refine AWP.seq ?_
    | refine AWP.block ?_
    | (refine AWP.skip ?_; try dsimp only [thn, inBlk])
    | (refine AWP.exit ?_; try simp only [thn, inBlk, if_true, reduceIte, Nat.reduceEqDiff])
    | (refine AWP.ret ?_; try dsimp only [thn, inBlk])
    | (refine AWP.condT ?_ ?_; (focus (simp [go_sem]; done)))
    | (refine AWP.condF ?_ ?_; (focus (simp [go_sem]; done)))
    | (apply AWP.rE; (focus (simp [go_sem]; exact ⟨rfl, rfl⟩)); try dsimp only [thn, inBlk])
    | fail)
  simp [bodyQ, thn, inBlk, resA, resV, go_sem]
  exact k3.tail
end L23
end

