import Derived.Test.YtfnlbcifdopnhaaDoorL11d
open Go Ab Go.Proofs
namespace L11
set_option autoImplicit false
set_option linter.unusedSimpArgs false
set_option linter.unusedVariables false

/-! ### Names -/
def nameP (ls : List (List UInt8)) (r : List UInt8) : Bool := decide (ls.length ≤ 3) && ls.all partB && partB r
set_option maxHeartbeats 4000000 in
theorem check_calls {O : Old} {h : AHeap} {R : List Chunk} {a : Option Addr} {cap : Nat} {ls : List (List UInt8)} {r : List UInt8} (k : Own O h (txs (.slice a ls.length cap) ls :: R)) (h0 : 0 < ls.length) (hl : ls.length ≤ 1000000) (hm : ∀ l ∈ ls, l.length ≤ 1000000) (hr : r.length ≤ 1000000) :
    ACalls Tryd.prog 29 #[.agg #[.slice a ls.length cap, tx r]] h fun v h' => v = .int .i64 (if nameP ls r then 0 else 30) ∧ Own O h' (txs (.slice a ls.length cap) ls :: R) := by
  refine ACalls.of_awp (args := [.agg #[.slice a ls.length cap, tx r]]) (n := 26) Tryd.func29 rfl rfl (by show 1 ≤ 26; omega) ?_
  have k1 := k.push (.row [.slice a ls.length cap, tx r] 57 2 true false)
  have c1 := k1.obj
  have h0' : ¬ ls = [] := by rintro rfl; simp at h0
  have h0l : ¬ ls.length = 0 := by omega
  have h0i : ((ls.length : Int) == 0) = false := by simpa using h0'
  by_cases h3 : ls.length ≤ 3
  rotate_left
  · have h3' : (3 : Int) < ls.length := by omega
    have e : nameP ls r = false := by simp [nameP, h3]
    rw [e]
    (repeat' first
      | refine AWP.seq ?_
      | refine AWP.block ?_
      | (refine AWP.skip ?_; try dsimp only [thn, inBlk])
      | (refine AWP.exit ?_; try simp only [thn, inBlk, if_true, reduceIte, Nat.reduceEqDiff])
      | (refine AWP.ret ?_; try dsimp only [thn, inBlk])
      | (refine AWP.condT ?_ ?_; (focus (simp [go_sem, c1, h0', h0i, h3']; done)))
      | (refine AWP.condF ?_ ?_; (focus (simp [go_sem, c1, h0', h0i, h3']; done)))
      | (apply AWP.rE; (focus (simp [go_sem, c1, h0', h0i, h3']; exact ⟨rfl, rfl⟩)); try dsimp only [thn, inBlk])
      | fail)
    simp [bodyQ, thn, inBlk, resA, resV, go_sem]
    exact k1.tail
  have h3' : ¬ (3 : Int) < ls.length := by omega
  (repeat' first
    | refine AWP.seq ?_
    | refine AWP.block ?_
    | (refine AWP.skip ?_; try dsimp only [thn, inBlk])
    | (refine AWP.exit ?_; try simp only [thn, inBlk, if_true, reduceIte, Nat.reduceEqDiff])
    | (refine AWP.ret ?_; try dsimp only [thn, inBlk])
    | (refine AWP.condT ?_ ?_; (focus (simp [go_sem]; done)))
    | (refine AWP.condF ?_ ?_; (focus (simp [go_sem]; done)))
    | (apply AWP.rE; (focus (simp [go_sem]; exact ⟨rfl, rfl⟩)); try dsimp only [thn, inBlk])
    | fail)
  refine AWP.callE (by simp [go_sem, c1, h0', h0i, h3']; exact ⟨rfl, rfl, rfl, rfl, rfl⟩) (by kernel_rfl) ?_
  refine (containsfunc_calls k1.b1 hl hm).mono ?_
  rintro v h2 ⟨rfl, k2⟩
  have c2 := k2.b1.obj
  cases ha : ls.all partB
  · have e : nameP ls r = false := by simp only [nameP, ha]; simp
    rw [e]
    refine awpL_restE (by simp [go_sem]; exact ⟨rfl, rfl⟩) ?_; try dsimp only [thn, inBlk]
    (repeat' first
      | refine AWP.seq ?_
      | refine AWP.block ?_
      | (refine AWP.skip ?_; try dsimp only [thn, inBlk])
      | (refine AWP.exit ?_; try simp only [thn, inBlk, if_true, reduceIte, Nat.reduceEqDiff])
      | (refine AWP.ret ?_; try dsimp only [thn, inBlk])
      | (refine AWP.condT ?_ ?_; (focus (simp [go_sem]; done)))
      | (refine AWP.condF ?_ ?_; (focus (simp [go_sem]; done)))
      | (apply AWP.rE; (focus (simp [go_sem]; exact ⟨rfl, rfl⟩)); try dsimp only [thn, inBlk])
      | fail)
    simp [bodyQ, thn, inBlk, resA, resV, go_sem]
    exact k2.d1
  · refine awpL_toCall (by simp [go_sem, c2]; exact ⟨rfl, rfl, rfl, rfl, rfl⟩) (by kernel_rfl) ?_
    refine (fn_calls hr).mono ?_
    rintro v h4 ⟨rfl, rfl⟩
    have e : nameP ls r = partB r := by simp only [nameP, ha, decide_eq_true h3]; simp
    rw [e]
    refine awpL_restE (by simp [go_sem]; exact ⟨rfl, rfl⟩) ?_; try dsimp only [thn, inBlk]
    cases hp : partB r
    · (repeat' first
        | refine AWP.seq ?_
        | refine AWP.block ?_
        | (refine AWP.skip ?_; try dsimp only [thn, inBlk])
        | (refine AWP.exit ?_; try simp only [thn, inBlk, if_true, reduceIte, Nat.reduceEqDiff])
        | (refine AWP.ret ?_; try dsimp only [thn, inBlk])
        | (refine AWP.condT ?_ ?_; (focus (simp [go_sem]; done)))
        | (refine AWP.condF ?_ ?_; (focus (simp [go_sem]; done)))
        | (apply AWP.rE; (focus (simp [go_sem]; exact ⟨rfl, rfl⟩)); try dsimp only [thn, inBlk])
        | fail)
      simp [bodyQ, thn, inBlk, resA, resV, go_sem]
      exact k2.d1
    · (repeat' first
        | refine AWP.seq ?_
        | refine AWP.block ?_
        | (refine AWP.skip ?_; try dsimp only [thn, inBlk])
        | (refine AWP.exit ?_; try simp only [thn, inBlk, if_true, reduceIte, Nat.reduceEqDiff])
        | (refine AWP.ret ?_; try dsimp only [thn, inBlk])
        | (refine AWP.condT ?_ ?_; (focus (simp [go_sem]; done)))
        | (refine AWP.condF ?_ ?_; (focus (simp [go_sem]; done)))
        | (apply AWP.rE; (focus (simp [go_sem]; exact ⟨rfl, rfl⟩)); try dsimp only [thn, inBlk])
        | fail)
      simp [bodyQ, thn, inBlk, resA, resV, go_sem]
      exact k2.d1
/-- What is ahead of the first @, and behind it. -/
def cutA : List UInt8 → List UInt8 × List UInt8
  | [] => ([], [])
  | c :: l => if c = 64 then ([], l) else (c :: (cutA l).1, (cutA l).2)
theorem cutA_cut : ∀ (p t : List UInt8), (64 : UInt8) ∉ p → cutA (p ++ 64 :: t) = (p, t)
  | [], t, _ => by simp [cutA]
  | c :: p, t, h => by
    simp only [List.mem_cons, not_or] at h
    rw [List.cons_append, cutA, if_neg (Ne.symm h.1), cutA_cut p t h.2]
theorem cutA_none : ∀ (l : List UInt8), (64 : UInt8) ∉ l → cutA l = (l, [])
  | [], _ => rfl
  | c :: l, h => by
    simp only [List.mem_cons, not_or] at h
    rw [cutA, if_neg (Ne.symm h.1), cutA_none l h.2]
theorem cutA_len : ∀ (l : List UInt8), (cutA l).1.length ≤ l.length ∧ (cutA l).2.length ≤ l.length
  | [] => ⟨Nat.le_refl _, Nat.le_refl _⟩
  | c :: l => by
    have ih := cutA_len l
    rw [cutA]; split <;> simp <;> omega
theorem indexByte_none {c : UInt8} : ∀ (l : List UInt8), c ∉ l → Lib.indexByte l c = -1 := by
  intro l
  induction l with
  | nil => intro _; rfl
  | cons x l ih =>
    intro h
    simp only [List.mem_cons, not_or] at h
    have hb : (x == c) = false := by simpa using fun e : x = c => h.1 e.symm
    simp [Lib.indexByte, hb, ih h.2]
def nameB (s : List UInt8) : Bool := nameP (splitB (cutA s).1) (cutA s).2
theorem scut_calls {h : AHeap} {l : List UInt8} (hm : l.length ≤ 1000000) :
    ACalls Tryd.prog 41 #[tx l, .string ⟨#[64]⟩] h fun r h' => (∃ b, r = .tuple #[tx (cutA l).1, tx (cutA l).2, .bool b]) ∧ h' = h := by
  refine ACalls.of_awp (args := [tx l, .string ⟨#[64]⟩]) (n := 23) Tryd.func41 rfl rfl (by show 2 ≤ 23; omega) ?_
  (repeat' first
    | refine AWP.seq ?_
    | refine AWP.block ?_
    | (refine AWP.skip ?_; try dsimp only [thn, inBlk])
    | (refine AWP.exit ?_; try simp only [thn, inBlk, if_true, reduceIte, Nat.reduceEqDiff])
    | (refine AWP.ret ?_; try dsimp only [thn, inBlk])
    | (refine AWP.condT ?_ ?_; (focus (simp [go_sem]; done)))
    | (refine AWP.condF ?_ ?_; (focus (simp [go_sem]; done)))
    | (apply AWP.rE; (focus (simp [go_sem]; exact ⟨rfl, rfl⟩)); try dsimp only [thn, inBlk])
    | (apply AWP.dE hmix [.n 0 [0], .n 1 [7], .n 2 [13, 14], .n 3 [0], .n 4 [7], .n 5 [1], .n 6 [18], .n 7 [17, 19], .n 8 [16, 20], .n 9 [15], .n 10 [21], .n 11 []]; (focus kernel_rfl); (focus (simp [go_sem]; exact ⟨rfl, rfl⟩)); try dsimp only [thn, inBlk])
    | fail)
  refine AWP.callE (by simp [go_sem]; exact ⟨rfl, rfl, rfl, rfl, rfl⟩) (by kernel_rfl) ?_
  refine (stridx_calls (l := l) (c := 64)).mono ?_
  rintro r h1 ⟨rfl, rfl⟩
  by_cases hc : (64 : UInt8) ∈ l
  · obtain ⟨pre, tail, hpt, hnp, hix⟩ := indexByte_split (bs := l) (c := 64) (List.count_pos_iff.2 hc)
    rw [hix]
    have e := cutA_cut pre tail hnp
    rw [← hpt] at e
    rw [e]
    obtain ⟨q, hq⟩ : ∃ q, q = pre.length := ⟨_, rfl⟩
    rw [← hq]
    have hrl2 : l.length = q + 1 + tail.length := by rw [hpt, List.length_append, List.length_cons, hq]; omega
    obtain ⟨q1, hq1⟩ : ∃ q1, q1 = q + 1 := ⟨_, rfl⟩
    have w4 : IntKind.i64.wrap (q : Int) = (q : Int) := by rw [wI64 (by omega) (by omega)]
    have w5 : IntKind.i64.wrap ((q : Int) + 1) = (q1 : Int) := by rw [wI64 (by omega) (by omega)]; omega
    have s1 : ∀ hh, sliceR Tryd.prog hh 9 (tx l) none (some (.int .i64 (q : Int))) none = some (tx pre) := fun hh => by
      have := str_slice (P := Tryd.prog) (h := hh) Tryd.underlying9 (l := l) (lo := 0) (hi := q) (a := none) (u := some (.int .i64 (q : Int))) (by omega) (by omega) (.inl ⟨rfl, rfl⟩) (.inr ⟨.i64, rfl⟩)
      rw [List.drop_zero, hpt, hq, List.take_left] at this
      rw [hpt, hq]; exact this
    have s2 : ∀ hh, sliceR Tryd.prog hh 9 (tx l) (some (.int .i64 (q1 : Int))) none none = some (tx tail) := fun hh => by
      have := str_slice (P := Tryd.prog) (h := hh) Tryd.underlying9 (l := l) (lo := q1) (hi := l.length) (a := some (.int .i64 (q1 : Int))) (u := none) (by omega) (Nat.le_refl _) (.inr ⟨.i64, rfl⟩) (.inl ⟨rfl, rfl⟩)
      have e : l.drop q1 = tail := by rw [hpt, hq1, hq]; simp
      rw [List.take_length, e] at this
      exact this
    refine awpL_restE (by simp [go_sem]; exact ⟨rfl, rfl⟩) ?_; try dsimp only [thn, inBlk]
    (repeat' first
      | refine AWP.seq ?_
      | refine AWP.block ?_
      | (refine AWP.skip ?_; try dsimp only [thn, inBlk])
      | (refine AWP.exit ?_; try simp only [thn, inBlk, if_true, reduceIte, Nat.reduceEqDiff])
      | (refine AWP.ret ?_; try dsimp only [thn, inBlk])
      | (refine AWP.condT ?_ ?_; (focus (simp [go_sem, w4, w5, s1, s2]; done)))
      | (refine AWP.condF ?_ ?_; (focus (simp [go_sem, w4, w5, s1, s2]; done)))
      | (apply AWP.rE; (focus (simp [go_sem, w4, w5, s1, s2]; exact ⟨rfl, rfl⟩)); try dsimp only [thn, inBlk])
      | (apply AWP.dE hmix [.n 0 [0], .n 1 [7], .n 2 [13, 14], .n 3 [0], .n 4 [7], .n 5 [1], .n 6 [18], .n 7 [17, 19], .n 8 [16, 20], .n 9 [15], .n 10 [21], .n 11 []]; (focus kernel_rfl); (focus (simp [go_sem, w4, w5, s1, s2]; exact ⟨rfl, rfl⟩)); try dsimp only [thn, inBlk])
      | fail)
    simp [bodyQ, thn, inBlk, resA, resV, go_sem]
  · rw [indexByte_none l hc, cutA_none l hc]
    refine awpL_restE (by simp [go_sem]; exact ⟨rfl, rfl⟩) ?_; try dsimp only [thn, inBlk]
    (repeat' first
      | refine AWP.seq ?_
      | refine AWP.block ?_
      | (refine AWP.skip ?_; try dsimp only [thn, inBlk])
      | (refine AWP.exit ?_; try simp only [thn, inBlk, if_true, reduceIte, Nat.reduceEqDiff])
      | (refine AWP.ret ?_; try dsimp only [thn, inBlk])
      | (refine AWP.condT ?_ ?_; (focus (simp [go_sem]; done)))
      | (refine AWP.condF ?_ ?_; (focus (simp [go_sem]; done)))
      | (apply AWP.rE; (focus (simp [go_sem]; exact ⟨rfl, rfl⟩)); try dsimp only [thn, inBlk])
      | (apply AWP.dE hmix [.n 0 [0], .n 1 [7], .n 2 [13, 14], .n 3 [0], .n 4 [7], .n 5 [1], .n 6 [18], .n 7 [17, 19], .n 8 [16, 20], .n 9 [15], .n 10 [21], .n 11 []]; (focus kernel_rfl); (focus (simp [go_sem]; exact ⟨rfl, rfl⟩)); try dsimp only [thn, inBlk])
      | fail)
    simp [bodyQ, thn, inBlk, resA, resV, go_sem]
theorem cut_calls {h : AHeap} {l : List UInt8} (hm : l.length ≤ 1000000) :
    ACalls Tryd.prog 27 #[tx l, .string ⟨#[64]⟩] h fun r h' => (∃ b, r = .tuple #[tx (cutA l).1, tx (cutA l).2, .bool b]) ∧ h' = h := by
  refine ACalls.of_awp (args := [tx l, .string ⟨#[64]⟩]) (n := 13) Tryd.func27 rfl rfl (by show 2 ≤ 13; omega) ?_
  (repeat' first
    | refine AWP.seq ?_
    | refine AWP.block ?_
    | (refine AWP.skip ?_; try dsimp only [thn, inBlk])
    | (refine AWP.exit ?_; try simp only [thn, inBlk, if_true, reduceIte, Nat.reduceEqDiff])
    | (refine AWP.ret ?_; try dsimp only [thn, inBlk])
    | (refine AWP.condT ?_ ?_; (focus (simp [go_sem]; done)))
    | (refine AWP.condF ?_ ?_; (focus (simp [go_sem]; done)))
    | (apply AWP.rE; (focus (simp [go_sem]; exact ⟨rfl, rfl⟩)); try dsimp only [thn, inBlk])
    | fail)
  refine AWP.callE (by simp [go_sem]; exact ⟨rfl, rfl, rfl, rfl, rfl⟩) (by kernel_rfl) ?_
  refine (scut_calls hm).mono ?_
  rintro r h1 ⟨⟨b, rfl⟩, rfl⟩
  refine awpL_restE (by simp [go_sem]; exact ⟨rfl, rfl⟩) ?_; try dsimp only [thn, inBlk]
  (repeat' first
    | refine AWP.seq ?_
    | refine AWP.block ?_
    | (refine AWP.skip ?_; try dsimp only [thn, inBlk])
    | (refine AWP.exit ?_; try simp only [thn, inBlk, if_true, reduceIte, Nat.reduceEqDiff])
    | (refine AWP.ret ?_; try dsimp only [thn, inBlk])
    | (refine AWP.condT ?_ ?_; (focus (simp [go_sem]; done)))
    | (refine AWP.condF ?_ ?_; (focus (simp [go_sem]; done)))
    | (apply AWP.rE; (focus (simp [go_sem]; exact ⟨rfl, rfl⟩)); try dsimp only [thn, inBlk])
    | fail)
  simp [bodyQ, thn, inBlk, resA, resV, go_sem]
theorem splitB_short : ∀ (l : List UInt8), ∀ x ∈ splitB l, x.length ≤ l.length
  | [], x, h => by simp [splitB] at h; rw [h]; exact Nat.le_refl _
  | c :: l, x, h => by
    have ih := splitB_short l
    rw [splitB] at h
    split at h
    · rcases List.mem_cons.1 h with rfl | h
      · simp
      · have := ih x h; simp; omega
    · match hs : splitB l with
      | [] => rw [hs] at h; simp at h; rw [h]; simp
      | y :: r =>
        rw [hs] at h ih
        rcases List.mem_cons.1 h with rfl | h
        · have := ih y (by simp); simp; omega
        · have := ih x (by simp [h]); simp; omega
set_option maxHeartbeats 4000000 in
theorem parse_calls {O : Old} {h : AHeap} {R : List Chunk} {l : List UInt8} (k : Own O h R) (hm : l.length ≤ 900000) :
    ACalls Tryd.prog 17 #[tx l] h fun r h' => (∃ a n cap q, r = .tuple #[.agg #[.slice a n cap, tx q], .int .i64 (if nameB l then 0 else 30)]) ∧ Own O h' R := by
  refine ACalls.of_awp (args := [tx l]) (n := 26) Tryd.func17 rfl rfl (by show 1 ≤ 26; omega) ?_
  have k1 := k.push (.row [.slice none 0 0, .string ⟨#[]⟩] 57 2 true false)
  have hcl := cutA_len l
  (repeat' first
    | refine AWP.seq ?_
    | refine AWP.block ?_
    | (refine AWP.skip ?_; try dsimp only [thn, inBlk])
    | (refine AWP.exit ?_; try simp only [thn, inBlk, if_true, reduceIte, Nat.reduceEqDiff])
    | (refine AWP.ret ?_; try dsimp only [thn, inBlk])
    | (refine AWP.condT ?_ ?_; (focus (simp [go_sem]; done)))
    | (refine AWP.condF ?_ ?_; (focus (simp [go_sem]; done)))
    | (apply AWP.rE; (focus (simp [go_sem]; exact ⟨rfl, rfl⟩)); try dsimp only [thn, inBlk])
    | fail)
  refine AWP.callE (by simp [go_sem]; exact ⟨rfl, rfl, rfl, rfl, rfl⟩) (by kernel_rfl) ?_
  refine (cut_calls (l := l) (by omega)).mono ?_
  rintro r h1 ⟨⟨b, rfl⟩, rfl⟩
  obtain ⟨p, q, hpq⟩ : ∃ p q, cutA l = (p, q) := ⟨_, _, rfl⟩
  have hnb : nameB l = nameP (splitB p) q := by simp only [nameB, hpq]
  rw [hpq] at hcl ⊢
  dsimp only at hcl ⊢
  refine awpL_restE (by simp [go_sem]; exact ⟨rfl, rfl⟩) ?_; try dsimp only [thn, inBlk]
  (repeat' first
    | refine AWP.seq ?_
    | refine AWP.block ?_
    | (refine AWP.skip ?_; try dsimp only [thn, inBlk])
    | (refine AWP.exit ?_; try simp only [thn, inBlk, if_true, reduceIte, Nat.reduceEqDiff])
    | (refine AWP.ret ?_; try dsimp only [thn, inBlk])
    | (refine AWP.condT ?_ ?_; (focus (simp [go_sem]; done)))
    | (refine AWP.condF ?_ ?_; (focus (simp [go_sem]; done)))
    | (apply AWP.rE; (focus (simp [go_sem]; exact ⟨rfl, rfl⟩)); try dsimp only [thn, inBlk])
    | fail)
  refine AWP.callE (by simp [go_sem]; exact ⟨rfl, rfl, rfl, rfl, rfl⟩) (by kernel_rfl) ?_
  refine (split_calls k1 (l := p) (by omega)).mono ?_
  rintro r h2 ⟨a, cap, rfl, k2⟩
  have hsl := splitB_length p
  have hcc : p.count 47 ≤ p.length := List.count_le_length
  have hss := splitB_short p
  generalize splitB p = ls at k2 hnb hsl hss ⊢
  have k3 := k2.push (.row [.slice a ls.length cap, tx q] 57 2 true false)
  have c3 := k3.obj
  have c3b := k3.b2.obj
  refine awpL_restE (by simp [go_sem]; exact ⟨rfl, rfl⟩) ?_; try dsimp only [thn, inBlk]
  (repeat' first
    | refine AWP.seq ?_
    | refine AWP.block ?_
    | (refine AWP.skip ?_; try dsimp only [thn, inBlk])
    | (refine AWP.exit ?_; try simp only [thn, inBlk, if_true, reduceIte, Nat.reduceEqDiff])
    | (refine AWP.ret ?_; try dsimp only [thn, inBlk])
    | (refine AWP.condT ?_ ?_; (focus (simp [go_sem, c3]; done)))
    | (refine AWP.condF ?_ ?_; (focus (simp [go_sem, c3]; done)))
    | (apply AWP.rE; (focus (simp [go_sem, c3]; exact ⟨rfl, rfl⟩)); try dsimp only [thn, inBlk])
    | fail)
  refine AWP.callE (by simp [go_sem, c3]; exact ⟨rfl, rfl, rfl, rfl, rfl⟩) (by kernel_rfl) ?_
  refine (check_calls (r := q) k3.b1 (by omega) (by omega) (fun x hx => by have := hss x hx; omega) (by omega)).mono ?_
  rintro r h4 ⟨rfl, k4⟩
  have c4 := k4.b1.obj
  have c5 := k4.b2.obj
  rw [hnb]
  refine awpL_restE (by simp [go_sem]; exact ⟨rfl, rfl⟩) ?_; try dsimp only [thn, inBlk]
  have kz := k4.b2.set (.row [.slice a ls.length cap, tx q] 57 2 true false)
  cases hn : nameP ls q
  · (repeat' first
      | refine AWP.seq ?_
      | refine AWP.block ?_
      | (refine AWP.skip ?_; try dsimp only [thn, inBlk])
      | (refine AWP.exit ?_; try simp only [thn, inBlk, if_true, reduceIte, Nat.reduceEqDiff])
      | (refine AWP.ret ?_; try dsimp only [thn, inBlk])
      | (refine AWP.condT ?_ ?_; (focus (simp [go_sem, c5]; done)))
      | (refine AWP.condF ?_ ?_; (focus (simp [go_sem, c5]; done)))
      | (apply AWP.rE; (focus (simp [go_sem, c5]; exact ⟨rfl, rfl⟩)); try dsimp only [thn, inBlk])
      | fail)
    simp [bodyQ, thn, inBlk, resA, resV, go_sem, c5]
    exact (k4.b2.set (.row [.slice none 0 0, .string ⟨#[]⟩] 57 2 true false)).tail.tail.tail
  · (repeat' first
      | refine AWP.seq ?_
      | refine AWP.block ?_
      | (refine AWP.skip ?_; try dsimp only [thn, inBlk])
      | (refine AWP.exit ?_; try simp only [thn, inBlk, if_true, reduceIte, Nat.reduceEqDiff])
      | (refine AWP.ret ?_; try dsimp only [thn, inBlk])
      | (refine AWP.condT ?_ ?_; (focus (simp [go_sem, c4, c5]; done)))
      | (refine AWP.condF ?_ ?_; (focus (simp [go_sem, c4, c5]; done)))
      | (apply AWP.rE; (focus (simp [go_sem, c4, c5]; exact ⟨rfl, rfl⟩)); try dsimp only [thn, inBlk])
      | fail)
    simp [bodyQ, thn, inBlk, resA, resV, go_sem]
    exact kz.tail.tail.tail
end L11

