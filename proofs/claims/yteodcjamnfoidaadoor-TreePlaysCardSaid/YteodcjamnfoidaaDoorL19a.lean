import Derived.Test.YteodcjamnfoidaaDoorL19T
import Derived.Test.YteodcjamnfoidaaDoorAbLibE
open Go Ab Go.Proofs
namespace L19
set_option autoImplicit false
set_option linter.unusedSimpArgs false
set_option linter.unusedVariables false

abbrev ptr (i : Nat) : Value := .pointer (some ⟨i, 0, none⟩)
abbrev tx (l : List UInt8) : Value := .string ⟨l.toArray⟩

/-! ### strings.CutPrefix, Count, Index, LastIndexByte, at one byte -/
theorem ix47 : indexP Tryd.prog 9 (.string ⟨#[47]⟩) (.int .i64 0) = some (.int .u8 47) := str_index (l := [47]) Tryd.underlying9 (j := 0) (by decide)
theorem ex102 : ExRow Tryd.prog 102 .index := ⟨_, Tryd.func102, rfl, rfl, rfl, rfl⟩
theorem ex88 : ExRow Tryd.prog 88 .count := ⟨_, Tryd.func88, rfl, rfl, rfl, rfl⟩
set_option maxRecDepth 10000 in
theorem sidxb_calls {h : AHeap} {l : List UInt8} {c : UInt8} :
    ACalls Tryd.prog 97 #[tx l, .int .u8 c.toNat] h fun r h' => r = .int .i64 (Lib.indexByte l c) ∧ h' = h := by
  refine ACalls.of_awp (args := [tx l, .int .u8 c.toNat]) (n := 8) Tryd.func97 rfl rfl (by show 2 ≤ 8; omega) ?_
  (repeat' first
    | refine AWP.seq ?_
    | refine AWP.block ?_
    | (refine AWP.skip ?_; try dsimp only [thn, inBlk])
    | (refine AWP.exit ?_; try simp only [thn, inBlk, if_true, reduceIte, Nat.reduceEqDiff])
    | (refine AWP.ret ?_; try dsimp only [thn, inBlk])
    | (refine AWP.condT ?_ ?_; (focus (simp [go_sem]; done)))
    | (refine AWP.condF ?_ ?_; (focus (simp [go_sem]; done)))
    | (apply AWP.rE; (focus (simp [go_sem]; exact ⟨rfl, rfl⟩)); try dsimp only [thn, inBlk])
    | fail)
  refine AWP.extE (by simp [go_sem]; exact ⟨rfl, rfl, rfl, rfl, rfl⟩) (ex102) (exV_str (h := h) (l := l) .index c) ?_
  refine awpL_restE (by simp [go_sem]; exact ⟨rfl, rfl⟩) ?_; try dsimp only [thn, inBlk]
  (repeat' first
    | refine AWP.seq ?_
    | refine AWP.block ?_
    | (refine AWP.skip ?_; try dsimp only [thn, inBlk])
    | (refine AWP.exit ?_; try simp only [thn, inBlk, if_true, reduceIte, Nat.reduceEqDiff])
    | (refine AWP.ret ?_; try dsimp only [thn, inBlk])
    | (refine AWP.condT ?_ ?_; (focus (simp [go_sem]; done)))
    | (refine AWP.condF ?_ ?_; (focus (simp [go_sem]; done)))
    | (apply AWP.rE; (focus (simp [go_sem]; exact ⟨rfl, rfl⟩)); try dsimp only [thn, inBlk])
    | fail)
  simp [bodyQ, thn, inBlk, resA, resV, go_sem]
  rfl
theorem stridx_calls {h : AHeap} {l : List UInt8} (hc : 0 < l.count 47) :
    ACalls Tryd.prog 89 #[tx l, .string ⟨#[47]⟩] h fun r h' => r = .int .i64 (Lib.indexByte l 47) ∧ h' = h := by
  refine ACalls.of_awp (args := [tx l, .string ⟨#[47]⟩]) (n := 143) Tryd.func89 rfl rfl (by show 2 ≤ 143; omega) ?_
  by_cases hl : l = [47]
  · subst hl
    (repeat' first
      | refine AWP.seq ?_
      | refine AWP.block ?_
      | (refine AWP.skip ?_; try dsimp only [thn, inBlk])
      | (refine AWP.exit ?_; try simp only [thn, inBlk, if_true, reduceIte, Nat.reduceEqDiff])
      | (refine AWP.ret ?_; try dsimp only [thn, inBlk])
      | (refine AWP.condT ?_ ?_; (focus (simp [go_sem, ix47]; done)))
      | (refine AWP.condF ?_ ?_; (focus (simp [go_sem, ix47]; done)))
      | (apply AWP.rE; (focus (simp [go_sem, ix47]; exact ⟨rfl, rfl⟩)); try dsimp only [thn, inBlk])
      | fail)
    simp [bodyQ, thn, inBlk, resA, resV, go_sem]
    rfl
  · have hne : (([47] : List UInt8) == l) = false := by
      rw [beq_eq_false_iff_ne]
      exact fun e => hl e.symm
    (repeat' first
      | refine AWP.seq ?_
      | refine AWP.block ?_
      | (refine AWP.skip ?_; try dsimp only [thn, inBlk])
      | (refine AWP.exit ?_; try simp only [thn, inBlk, if_true, reduceIte, Nat.reduceEqDiff])
      | (refine AWP.ret ?_; try dsimp only [thn, inBlk])
      | (refine AWP.condT ?_ ?_; (focus (simp [go_sem, ix47, hne]; done)))
      | (refine AWP.condF ?_ ?_; (focus (simp [go_sem, ix47, hne]; done)))
      | (apply AWP.rE; (focus (simp [go_sem, ix47, hne]; exact ⟨rfl, rfl⟩)); try dsimp only [thn, inBlk])
      | fail)
    refine AWP.callE (by simp [go_sem, ix47]; exact ⟨rfl, rfl, rfl, rfl, rfl⟩) (by kernel_rfl) ?_
    refine (sidxb_calls (c := 47)).mono ?_
    rintro r h' ⟨rfl, rfl⟩
    refine awpL_restE (by simp [go_sem]; exact ⟨rfl, rfl⟩) ?_; try dsimp only [thn, inBlk]
    (repeat' first
      | refine AWP.seq ?_
      | refine AWP.block ?_
      | (refine AWP.skip ?_; try dsimp only [thn, inBlk])
      | (refine AWP.exit ?_; try simp only [thn, inBlk, if_true, reduceIte, Nat.reduceEqDiff])
      | (refine AWP.ret ?_; try dsimp only [thn, inBlk])
      | (refine AWP.condT ?_ ?_; (focus (simp [go_sem]; done)))
      | (refine AWP.condF ?_ ?_; (focus (simp [go_sem]; done)))
      | (apply AWP.rE; (focus (simp [go_sem]; exact ⟨rfl, rfl⟩)); try dsimp only [thn, inBlk])
      | fail)
    simp [bodyQ, thn, inBlk, resA, resV, go_sem]
theorem sindex_calls {h : AHeap} {l : List UInt8} (hc : 0 < l.count 47) :
    ACalls Tryd.prog 74 #[tx l, .string ⟨#[47]⟩] h fun r h' => r = .int .i64 (Lib.indexByte l 47) ∧ h' = h := by
  refine ACalls.of_awp (args := [tx l, .string ⟨#[47]⟩]) (n := 8) Tryd.func74 rfl rfl (by show 2 ≤ 8; omega) ?_
  (repeat' first
    | refine AWP.seq ?_
    | refine AWP.block ?_
    | (refine AWP.skip ?_; try dsimp only [thn, inBlk])
    | (refine AWP.exit ?_; try simp only [thn, inBlk, if_true, reduceIte, Nat.reduceEqDiff])
    | (refine AWP.ret ?_; try dsimp only [thn, inBlk])
    | (refine AWP.condT ?_ ?_; (focus (simp [go_sem]; done)))
    | (refine AWP.condF ?_ ?_; (focus (simp [go_sem]; done)))
    | (apply AWP.rE; (focus (simp [go_sem]; exact ⟨rfl, rfl⟩)); try dsimp only [thn, inBlk])
    | fail)
  refine AWP.callE (by simp [go_sem]; exact ⟨rfl, rfl, rfl, rfl, rfl⟩) (by kernel_rfl) ?_
  refine (stridx_calls hc).mono ?_
  rintro r h' ⟨rfl, rfl⟩
  refine awpL_restE (by simp [go_sem]; exact ⟨rfl, rfl⟩) ?_; try dsimp only [thn, inBlk]
  (repeat' first
    | refine AWP.seq ?_
    | refine AWP.block ?_
    | (refine AWP.skip ?_; try dsimp only [thn, inBlk])
    | (refine AWP.exit ?_; try simp only [thn, inBlk, if_true, reduceIte, Nat.reduceEqDiff])
    | (refine AWP.ret ?_; try dsimp only [thn, inBlk])
    | (refine AWP.condT ?_ ?_; (focus (simp [go_sem]; done)))
    | (refine AWP.condF ?_ ?_; (focus (simp [go_sem]; done)))
    | (apply AWP.rE; (focus (simp [go_sem]; exact ⟨rfl, rfl⟩)); try dsimp only [thn, inBlk])
    | fail)
  simp [bodyQ, thn, inBlk, resA, resV, go_sem]
set_option maxRecDepth 10000 in
theorem scount_calls {h : AHeap} {l : List UInt8} :
    ACalls Tryd.prog 73 #[tx l, .string ⟨#[47]⟩] h fun r h' => r = .int .i64 ((l.count 47 : Nat) : Int) ∧ h' = h := by
  refine ACalls.of_awp (args := [tx l, .string ⟨#[47]⟩]) (n := 34) Tryd.func73 rfl rfl (by show 2 ≤ 34; omega) ?_
  (repeat' first
    | refine AWP.seq ?_
    | refine AWP.block ?_
    | (refine AWP.skip ?_; try dsimp only [thn, inBlk])
    | (refine AWP.exit ?_; try simp only [thn, inBlk, if_true, reduceIte, Nat.reduceEqDiff])
    | (refine AWP.ret ?_; try dsimp only [thn, inBlk])
    | (refine AWP.condT ?_ ?_; (focus (simp [go_sem, ix47]; done)))
    | (refine AWP.condF ?_ ?_; (focus (simp [go_sem, ix47]; done)))
    | (apply AWP.rE; (focus (simp [go_sem, ix47]; exact ⟨rfl, rfl⟩)); try dsimp only [thn, inBlk])
    | fail)
  refine AWP.extE (by simp [go_sem, ix47]; exact ⟨rfl, rfl, rfl, rfl, rfl⟩) (ex88) (exV_str (h := h) (l := l) .count 47) ?_
  refine awpL_restE (by simp [go_sem]; exact ⟨rfl, rfl⟩) ?_; try dsimp only [thn, inBlk]
  (repeat' first
    | refine AWP.seq ?_
    | refine AWP.block ?_
    | (refine AWP.skip ?_; try dsimp only [thn, inBlk])
    | (refine AWP.exit ?_; try simp only [thn, inBlk, if_true, reduceIte, Nat.reduceEqDiff])
    | (refine AWP.ret ?_; try dsimp only [thn, inBlk])
    | (refine AWP.condT ?_ ?_; (focus (simp [go_sem]; done)))
    | (refine AWP.condF ?_ ?_; (focus (simp [go_sem]; done)))
    | (apply AWP.rE; (focus (simp [go_sem]; exact ⟨rfl, rfl⟩)); try dsimp only [thn, inBlk])
    | fail)
  simp [bodyQ, thn, inBlk, resA, resV, go_sem]
  rfl
end L19
