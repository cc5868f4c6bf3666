import Derived.Test.YteodcjamnfoidaaDoorL19b
open Go Ab Go.Proofs
namespace L19
set_option autoImplicit false
set_option linter.unusedSimpArgs false
set_option linter.unusedVariables false

/-! ### strings.Split at one byte -/
def splitB : List UInt8 → List (List UInt8)
  | [] => [[]]
  | c :: l => if c = 47 then [] :: splitB l else match splitB l with
    | [] => [[c]]
    | x :: r => (c :: x) :: r
theorem splitB_length : ∀ l : List UInt8, (splitB l).length = l.count 47 + 1
  | [] => rfl
  | c :: l => by
    have ih := splitB_length l
    rw [splitB]
    split
    · rename_i h; subst h; simp [ih]
    · rename_i h
      rw [List.count_cons_of_ne h]
      match hs : splitB l with
      | [] => rw [hs] at ih; simp at ih
      | x :: r => rw [hs] at ih; simpa using ih
theorem splitB_cut : ∀ (p t : List UInt8), (47 : UInt8) ∉ p → splitB (p ++ 47 :: t) = p :: splitB t
  | [], t, _ => by simp [splitB]
  | c :: p, t, h => by
    simp only [List.mem_cons, not_or] at h
    rw [List.cons_append, splitB, if_neg (Ne.symm h.1), splitB_cut p t h.2]
theorem splitB_one : ∀ (l : List UInt8), l.count 47 = 0 → splitB l = [l]
  | [], _ => rfl
  | c :: l, h => by
    have hc : c ≠ 47 := by rintro rfl; simp at h
    rw [List.count_cons_of_ne hc] at h
    rw [splitB, if_neg hc, splitB_one l h]
theorem set_rep {α : Type} (d : List α) (x y : α) (n : Nat) : (d ++ List.replicate (n + 1) y).set d.length x = (d ++ [x]) ++ List.replicate n y := by
  rw [List.set_append_right _ _ (Nat.le_refl _), Nat.sub_self, List.replicate_succ]
  simp

abbrev txs (v : Value) (ls : List (List UInt8)) : Chunk := os 9 1 v ls.length (ls.map T)

set_option maxHeartbeats 4000000 in
theorem gensplit_calls {O : Old} {h : AHeap} {R : List Chunk} {l : List UInt8} (k : Own O h R) (hm : l.length ≤ 1000000) :
    ACalls Tryd.prog 63 #[tx l, .string ⟨#[47]⟩, .int .i64 0, .int .i64 (-1)] h fun r h' => ∃ a cap, r = .slice a (splitB l).length cap ∧ Own O h' (txs (.slice a (splitB l).length cap) (splitB l) :: R) := by
  refine ACalls.of_awp (args := [tx l, .string ⟨#[47]⟩, .int .i64 0, .int .i64 (-1)]) (n := 66) Tryd.func63 rfl rfl (by show 4 ≤ 66; omega) ?_
  (repeat' first
    | refine AWP.seq ?_
    | refine AWP.block ?_
    | (refine AWP.skip ?_; try dsimp only [thn, inBlk])
    | (refine AWP.exit ?_; try simp only [thn, inBlk, if_true, reduceIte, Nat.reduceEqDiff])
    | (refine AWP.ret ?_; try dsimp only [thn, inBlk])
    | (refine AWP.condT ?_ ?_; (focus (simp [go_sem]; done)))
    | (refine AWP.condF ?_ ?_; (focus (simp [go_sem]; done)))
    | (apply AWP.rE; (focus (simp [go_sem]; exact ⟨rfl, rfl⟩)); try dsimp only [thn, inBlk])
    | fail)
  refine AWP.callE (by simp [go_sem]; exact ⟨rfl, rfl, rfl, rfl, rfl⟩) (by kernel_rfl) ?_
  refine scount_calls.mono ?_
  rintro r h1 ⟨rfl, rfl⟩
  obtain ⟨c, hc⟩ : ∃ c, c = l.count 47 := ⟨_, rfl⟩
  have hcl : c ≤ l.length := hc ▸ List.count_le_length
  have hsl := splitB_length l
  rw [← hc] at hsl ⊢
  obtain ⟨N, hN⟩ : ∃ N, N = c + 1 := ⟨_, rfl⟩
  obtain ⟨L1, hL1⟩ : ∃ L1, L1 = l.length + 1 := ⟨_, rfl⟩
  have w1 : IntKind.i64.wrap ((c : Int) + 1) = (N : Int) := by rw [wI64 (by omega) (by omega)]; omega
  have w2 : IntKind.i64.wrap ((l.length : Int) + 1) = (L1 : Int) := by rw [wI64 (by omega) (by omega)]; omega
  have w3 : IntKind.i64.wrap ((N : Int) - 1) = (c : Int) := by rw [wI64 (by omega) (by omega)]; omega
  have hlt : ¬ (L1 : Int) < (N : Int) := by omega
  have hlt2 : ¬ L1 < N := by omega
  have e3 : makeSliceA Tryd.prog h1.next 69 (.int .i64 N) (.int .i64 N) = some (.slice (some ⟨h1.next, 0, none⟩) N N, .row ((List.replicate N ([] : List UInt8)).map T) 9 1 true false) := mkTexts Tryd.underlying69 tsz9 tby9 tz9 (by omega) (by omega)
  have k1 := k.freshT (e := 9) (ls := List.replicate N ([] : List UInt8))
  rw [List.length_replicate] at k1
  have er : (List.replicate N ([] : List UInt8)).map T = List.replicate N (.string ⟨#[]⟩) := by simp [T]
  have k1 : Own O (h1.push (.row (List.replicate N (.string ⟨#[]⟩)) 9 1 true false)) (os 9 1 (.slice (some ⟨h1.next, 0, none⟩) N N) N ((List.replicate N ([] : List UInt8)).map T) :: R) := by rw [← er]; exact k1
  rw [er] at e3
  refine awpL_restE (by simp [go_sem]; exact ⟨rfl, rfl⟩) ?_; try dsimp only [thn, inBlk]
  (repeat' first
    | refine AWP.seq ?_
    | refine AWP.block ?_
    | (refine AWP.skip ?_; try dsimp only [thn, inBlk])
    | (refine AWP.exit ?_; try simp only [thn, inBlk, if_true, reduceIte, Nat.reduceEqDiff])
    | (refine AWP.ret ?_; try dsimp only [thn, inBlk])
    | (refine AWP.condT ?_ ?_; (focus (simp [go_sem, w1, w2, w3, hlt, hlt2, e3]; done)))
    | (refine AWP.condF ?_ ?_; (focus (simp [go_sem, w1, w2, w3, hlt, hlt2, e3]; done)))
    | (apply AWP.rE; (focus (simp [go_sem, w1, w2, w3, hlt, hlt2, e3]; exact ⟨rfl, rfl⟩)); try dsimp only [thn, inBlk])
    | fail)
  refine AWP.loopR [0, 1, 2, 3, 9, 10] (fun m s h' => ∃ (i : Nat) (done : List (List UInt8)) (rest : List UInt8), i ≤ c ∧ m = c - i ∧ s = ⟨66, [(0, tx rest), (1, .string ⟨#[47]⟩), (2, .int .i64 0), (3, .int .i64 c), (9, .slice (some ⟨h1.next, 0, none⟩) N N), (10, .int .i64 i)]⟩ ∧
    splitB l = done ++ splitB rest ∧ done.length = i ∧ rest.count 47 = c - i ∧ rest.length ≤ l.length ∧ Own O h' (os 9 1 (.slice (some ⟨h1.next, 0, none⟩) N N) N ((done ++ List.replicate (N - i) []).map T) :: R)) ?_ ?_
  · exact ⟨_, 0, [], l, by omega, rfl, rfl, rfl, rfl, by omega, Nat.le_refl _, k1⟩
  rintro m s h2 ⟨i, done, rest, hi, rfl, rfl, hsp, hdl, hrc, hrl, k2⟩
  by_cases hic : i < c
  · have hic' : (i : Int) < c := by omega
    obtain ⟨pre, tail, hpt, hnp, hix⟩ := indexByte_split (bs := rest) (c := 47) (by omega)
    (repeat' first
      | refine AWP.seq ?_
      | refine AWP.block ?_
      | (refine AWP.skip ?_; try dsimp only [thn, inBlk])
      | (refine AWP.exit ?_; try simp only [thn, inBlk, if_true, reduceIte, Nat.reduceEqDiff])
      | (refine AWP.ret ?_; try dsimp only [thn, inBlk])
      | (refine AWP.condT ?_ ?_; (focus (simp [go_sem, hic, hic']; done)))
      | (refine AWP.condF ?_ ?_; (focus (simp [go_sem, hic, hic']; done)))
      | (apply AWP.rE; (focus (simp [go_sem, hic, hic']; exact ⟨rfl, rfl⟩)); try dsimp only [thn, inBlk])
      | fail)
    refine AWP.callE (by simp [go_sem]; exact ⟨rfl, rfl, rfl, rfl, rfl⟩) (by kernel_rfl) ?_
    refine (sindex_calls (by omega)).mono ?_
    rintro r h3 ⟨rfl, rfl⟩
    rw [hix]
    obtain ⟨q, hq⟩ : ∃ q, q = pre.length := ⟨_, rfl⟩
    rw [← hq]
    have hrl2 : rest.length = q + 1 + tail.length := by rw [hpt, List.length_append, List.length_cons, hq]; omega
    obtain ⟨q1, hq1⟩ : ∃ q1, q1 = q + 1 := ⟨_, rfl⟩
    have w4 : IntKind.i64.wrap (q : Int) = (q : Int) := by rw [wI64 (by omega) (by omega)]
    have w5 : IntKind.i64.wrap ((q : Int) + 1) = (q1 : Int) := by rw [wI64 (by omega) (by omega)]; omega
    have w6 : IntKind.i64.wrap ((i : Int) + 1) = ((i + 1 : Nat) : Int) := by rw [wI64 (by omega) (by omega)]; omega
    have s1 : ∀ hh, sliceR Tryd.prog hh 9 (tx rest) none (some (.int .i64 (q : Int))) none = some (tx pre) := fun hh => by
      have := str_slice (P := Tryd.prog) (h := hh) Tryd.underlying9 (l := rest) (lo := 0) (hi := q) (a := none) (u := some (.int .i64 (q : Int))) (by omega) (by omega) (.inl ⟨rfl, rfl⟩) (.inr ⟨.i64, rfl⟩)
      rw [List.drop_zero, hpt, hq, List.take_left] at this
      rw [hpt, hq]; exact this
    have s2 : ∀ hh, sliceR Tryd.prog hh 9 (tx rest) (some (.int .i64 (q1 : Int))) none none = some (tx tail) := fun hh => by
      have := str_slice (P := Tryd.prog) (h := hh) Tryd.underlying9 (l := rest) (lo := q1) (hi := rest.length) (a := some (.int .i64 (q1 : Int))) (u := none) (by omega) (Nat.le_refl _) (.inr ⟨.i64, rfl⟩) (.inl ⟨rfl, rfl⟩)
      have e : rest.drop q1 = tail := by rw [hpt, hq1, hq]; simp
      rw [List.take_length, e] at this
      exact this
    obtain ⟨ia, oa, ca, ta, p0, q0, l0, k4⟩ := k2.ts_write (P := Tryd.prog) (t := 69) (ls := done ++ List.replicate (N - i) []) (by simp; omega) Tryd.underlying69 tsz9 (j := i) (by omega) pre (kd := .i64)
    have l0 : oa + 1 ≤ ca.length := l0
    refine awpL_restE (by simp [go_sem]; exact ⟨rfl, rfl⟩) ?_; try dsimp only [thn, inBlk]
    (repeat' first
      | refine AWP.seq ?_
      | refine AWP.block ?_
      | (refine AWP.skip ?_; try dsimp only [thn, inBlk])
      | (refine AWP.exit ?_; try simp only [thn, inBlk, if_true, reduceIte, Nat.reduceEqDiff])
      | (refine AWP.ret ?_; try dsimp only [thn, inBlk])
      | (refine AWP.condT ?_ ?_; (focus (simp [go_sem, w4, w5, w6, s1, s2, p0, q0, l0]; done)))
      | (refine AWP.condF ?_ ?_; (focus (simp [go_sem, w4, w5, w6, s1, s2, p0, q0, l0]; done)))
      | (apply AWP.rE; (focus (simp [go_sem, w4, w5, w6, s1, s2, p0, q0, l0]; exact ⟨rfl, rfl⟩)); try dsimp only [thn, inBlk])
      | fail)
    refine ⟨c - (i + 1), by omega, i + 1, done ++ [pre], tail, by omega, rfl, by simp [go_sem], ?_, by simp [hdl], ?_, by omega, ?_⟩
    · rw [hsp, hpt, splitB_cut pre tail hnp]; simp
    · have : rest.count 47 = tail.count 47 + 1 := by rw [hpt, List.count_append, List.count_eq_zero.2 hnp, List.count_cons_self]; omega
      omega
    · rw [show N - i = (N - (i + 1)) + 1 by omega, ← hdl, set_rep, hdl] at k4
      exact k4
  · obtain rfl : i = c := by omega
    have hic' : ¬ (i : Int) < i := by omega
    have hr1 := splitB_one rest (by omega)
    rw [hr1] at hsp
    obtain ⟨ia, oa, ca, ta, p0, q0, l0, k4⟩ := k2.ts_write (P := Tryd.prog) (t := 69) (ls := done ++ List.replicate (N - i) []) (by simp; omega) Tryd.underlying69 tsz9 (j := i) (by omega) rest (kd := .i64)
    have l0 : oa + 1 ≤ ca.length := l0
    rw [show N - i = 0 + 1 by omega, ← hdl, set_rep, List.replicate_zero, List.append_nil, ← hsp] at k4
    obtain ⟨v', e5, k5⟩ := k4.os_slice (P := Tryd.prog) (t := 69) Tryd.underlying69 tsz9 (lo := 0) (hi := N) (by omega) (by omega) (l := none) (u := some (.int .i64 N)) (.inl ⟨rfl, rfl⟩) (.inr ⟨.i64, rfl⟩)
    obtain ⟨a9, c9, rfl⟩ := k5.os_val
    (repeat' first
      | refine AWP.seq ?_
      | refine AWP.block ?_
      | (refine AWP.skip ?_; try dsimp only [thn, inBlk])
      | (refine AWP.exit ?_; try simp only [thn, inBlk, if_true, reduceIte, Nat.reduceEqDiff])
      | (refine AWP.ret ?_; try dsimp only [thn, inBlk])
      | (refine AWP.condT ?_ ?_; (focus (simp [go_sem, p0, q0, l0, w1, e5]; done)))
      | (refine AWP.condF ?_ ?_; (focus (simp [go_sem, p0, q0, l0, w1, e5]; done)))
      | (apply AWP.rE; (focus (simp [go_sem, p0, q0, l0, w1, e5]; exact ⟨rfl, rfl⟩)); try dsimp only [thn, inBlk])
      | fail)
    simp [bodyQ, thn, inBlk, resA, resV, go_sem]
    refine ⟨a9, c9, ⟨rfl, by omega, rfl⟩, ?_⟩
    simp only [Nat.mul_one, List.drop_zero, Nat.sub_zero] at k5
    rw [List.take_of_length_le (by simp; omega)] at k5
    rw [txs, hsl, ← hN]
    exact k5
theorem split_calls {O : Old} {h : AHeap} {R : List Chunk} {l : List UInt8} (k : Own O h R) (hm : l.length ≤ 1000000) :
    ACalls Tryd.prog 41 #[tx l, .string ⟨#[47]⟩] h fun r h' => ∃ a cap, r = .slice a (splitB l).length cap ∧ Own O h' (txs (.slice a (splitB l).length cap) (splitB l) :: R) := by
  refine ACalls.of_awp (args := [tx l, .string ⟨#[47]⟩]) (n := 8) Tryd.func41 rfl rfl (by show 2 ≤ 8; omega) ?_
  (repeat' first
    | refine AWP.seq ?_
    | refine AWP.block ?_
    | (refine AWP.skip ?_; try dsimp only [thn, inBlk])
    | (refine AWP.exit ?_; try simp only [thn, inBlk, if_true, reduceIte, Nat.reduceEqDiff])
    | (refine AWP.ret ?_; try dsimp only [thn, inBlk])
    | (refine AWP.condT ?_ ?_; (focus (simp [go_sem]; done)))
    | (refine AWP.condF ?_ ?_; (focus (simp [go_sem]; done)))
    | (apply AWP.rE; (focus (simp [go_sem]; exact ⟨rfl, rfl⟩)); try dsimp only [thn, inBlk])
    | fail)
  refine AWP.callE (by simp [go_sem]; exact ⟨rfl, rfl, rfl, rfl, rfl⟩) (by kernel_rfl) ?_
  refine (gensplit_calls k hm).mono ?_
  rintro r h' ⟨a, cap, rfl, k2⟩
  refine awpL_restE (by simp [go_sem]; exact ⟨rfl, rfl⟩) ?_; try dsimp only [thn, inBlk]
  (repeat' first
    | refine AWP.seq ?_
    | refine AWP.block ?_
    | (refine AWP.skip ?_; try dsimp only [thn, inBlk])
    | (refine AWP.exit ?_; try simp only [thn, inBlk, if_true, reduceIte, Nat.reduceEqDiff])
    | (refine AWP.ret ?_; try dsimp only [thn, inBlk])
    | (refine AWP.condT ?_ ?_; (focus (simp [go_sem]; done)))
    | (refine AWP.condF ?_ ?_; (focus (simp [go_sem]; done)))
    | (apply AWP.rE; (focus (simp [go_sem]; exact ⟨rfl, rfl⟩)); try dsimp only [thn, inBlk])
    | fail)
  simp [bodyQ, thn, inBlk, resA, resV, go_sem]
  exact ⟨a, cap, ⟨rfl, rfl⟩, k2⟩
end L19
