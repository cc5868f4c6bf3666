import Derived.Test.YtledpicaoeffjaaL21g
open Go Ab Go.Proofs
namespace L21
set_option autoImplicit false
set_option linter.unusedSimpArgs false
set_option linter.unusedVariables false

/-- The keys that rub out. -/
def rubsOf (n : Nat) : List UInt8 := (List.range n).map fun i => if i % 2 = 0 then 8 else 127

theorem key_rub {c : UInt8} (hc : c = 8 ∨ c = 127) (s : Pt) (x : UInt8) (l : List UInt8) (hl : s.line = l ++ [x]) : Pt.key c s = { s with entered := false, line := l, shown := s.shown ++ [8, 32, 8] } := by
  obtain ⟨a, b, d, e, f⟩ := s
  simp only at hl
  subst hl
  rcases hc with rfl | rfl <;> simp [Pt.key, Pt.rub]

theorem run_rubs : ∀ (keys : List UInt8) (l m : List UInt8) (s : Pt), (∀ c ∈ keys, c = 8 ∨ c = 127) → m.length = keys.length → s.line = l ++ m → (Pt.run keys s).line = l ∧ (Pt.run keys s).shown.length = s.shown.length + 3 * m.length ∧ (Pt.run keys s).lines = s.lines
  | [], l, m, s, _, hm, hl => by
    obtain rfl : m = [] := by simpa using hm
    simp [Pt.run, hl]
  | c :: keys, l, m, s, hk, hm, hl => by
    rcases List.eq_nil_or_concat m with rfl | ⟨m', x, rfl⟩
    · simp at hm
    · rw [List.concat_eq_append] at hm hl ⊢
      have h1 := key_rub (hk c (by simp)) s x (l ++ m') (by rw [hl, List.append_assoc])
      have := run_rubs keys l m' { s with entered := false, line := l ++ m', shown := s.shown ++ [8, 32, 8] } (fun d hd => hk d (by simp [hd])) (by simp at hm ⊢; omega) rfl
      simp only [Pt.run, List.foldl_cons] at this ⊢
      rw [h1]
      refine ⟨this.1, ?_, this.2.2⟩
      rw [this.2.1]; simp; omega

theorem rubs_all (n : Nat) : ∀ c ∈ rubsOf n, c = 8 ∨ c = 127 := by
  intro c hc
  simp only [rubsOf, List.mem_map] at hc
  obtain ⟨i, _, rfl⟩ := hc
  split <;> simp

theorem rubs_len (n : Nat) : (rubsOf n).length = n := by simp [rubsOf]
theorem rubs_succ (n : Nat) : rubsOf (n + 1) = rubsOf n ++ [if n % 2 = 0 then 8 else 127] := by simp [rubsOf, List.range_succ]

theorem feed_text {text : List UInt8} {s : Pt} (hp : isPlain text) (hl : s.line.length + text.length ≤ 80) (h2 : s.entered = false) :
    s.feed text = { s with line := s.line ++ text, shown := text, lines := [] } := by
  rw [Pt.feed, run_plain _ _ hp (by simpa using hl) (by simp [h2])]
  simp


theorem and_bit (j : Nat) (hj : j < 9223372036854775808) : j % 18446744073709551616 % 2 = j % 2 := by omega


set_option maxHeartbeats 4000000 in
theorem rubs_law {h : AHeap} {text more : List UInt8} (hl1 : text.length ≤ 140737488355328) (hl2 : more.length ≤ 140737488355328) :
    ACalls Try.prog 4 #[.string ⟨text.toArray⟩, .string ⟨more.toArray⟩] h fun r _ => r = .bool true := by
  refine Own.of_wf fun k0 => ?_
  refine ACalls.of_awp (args := [.string ⟨text.toArray⟩, .string ⟨more.toArray⟩]) (n := 98) Try.func4 rfl rfl (by show 2 ≤ 98; omega) ?_
  (repeat' first
    | refine AWP.seq ?_
    | refine AWP.block ?_
    | (refine AWP.skip ?_; try dsimp only [thn, inBlk])
    | (refine AWP.exit ?_; try simp only [thn, inBlk, if_true])
    | (refine AWP.ret ?_; try dsimp only [thn, inBlk])
    | (refine AWP.condT ?_ ?_; (focus (simp [go_sem]; done)))
    | (refine AWP.condF ?_ ?_; (focus (simp [go_sem]; done)))
    | (apply AWP.rE; (focus (simp [go_sem]; exact ⟨rfl, rfl⟩)); try dsimp only [thn, inBlk])
    | fail)
  refine AWP.callE (by simp [go_sem]; exact ⟨rfl, rfl, rfl, rfl, rfl⟩) (by kernel_rfl) ?_
  refine (speaks_calls k0).mono ?_
  rintro r h1 ⟨rfl, k1⟩
  refine awpL_restE (by simp [go_sem]; exact ⟨rfl, rfl⟩) ?_; try dsimp only [thn, inBlk]
  have w0 : IntKind.i64.wrap ((text.length : Int) + more.length) = text.length + more.length := wI64 (by omega) (by omega)
  by_cases g1 : 80 < text.length + more.length
  · have g1' : (80 : Int) < text.length + more.length := by omega
    (repeat' first
      | refine AWP.seq ?_
      | refine AWP.block ?_
      | (refine AWP.skip ?_; try dsimp only [thn, inBlk])
      | (refine AWP.exit ?_; try simp only [thn, inBlk, if_true])
      | (refine AWP.ret ?_; try dsimp only [thn, inBlk])
      | (refine AWP.condT ?_ ?_; (focus (simp [go_sem, g1', w0]; done)))
      | (refine AWP.condF ?_ ?_; (focus (simp [go_sem, g1', w0]; done)))
      | (apply AWP.rE; (focus (simp [go_sem, g1', w0]; exact ⟨rfl, rfl⟩)); try dsimp only [thn, inBlk])
      | fail)
    simp [bodyQ, thn, inBlk, resA, resV, go_sem]
  have g1' : ¬ (80 : Int) < text.length + more.length := by omega
  have g2' : ¬ (80 : Int) < text.length := by omega
  have i0 : indexP Try.prog 32 (.agg #[.string ⟨text.toArray⟩, .string ⟨more.toArray⟩]) (.int .i64 0) = some (.string ⟨text.toArray⟩) := by simp [indexP, Try.underlying32, tsz9, partA, agg9]
  have i1 : indexP Try.prog 32 (.agg #[.string ⟨text.toArray⟩, .string ⟨more.toArray⟩]) (.int .i64 1) = some (.string ⟨more.toArray⟩) := by simp [indexP, Try.underlying32, tsz9, partA, agg9]
  (repeat' first
    | refine AWP.seq ?_
    | refine AWP.block ?_
    | (refine AWP.skip ?_; try dsimp only [thn, inBlk])
    | (refine AWP.exit ?_; try simp only [thn, inBlk, if_true])
    | (refine AWP.ret ?_; try dsimp only [thn, inBlk])
    | (refine AWP.condT ?_ ?_; (focus (simp [go_sem, g1', g2', w0]; done)))
    | (refine AWP.condF ?_ ?_; (focus (simp [go_sem, g1', g2', w0]; done)))
    | (apply AWP.rE; (focus (simp [go_sem, g1', g2', w0]; exact ⟨rfl, rfl⟩)); try dsimp only [thn, inBlk])
    | fail)
  refine AWP.loopR [0, 1, 28, 29] (fun m s' h' => ∃ q : Nat, q ≤ 2 ∧ m = 2 - q ∧ h' = h1 ∧ s' = ⟨98, [(0, .string ⟨text.toArray⟩), (1, .string ⟨more.toArray⟩), (28, .agg #[.string ⟨text.toArray⟩, .string ⟨more.toArray⟩]), (29, .int .i64 q)]⟩ ∧ (1 ≤ q → isPlain text) ∧ (2 ≤ q → isPlain more)) ?_ ?_
  · exact ⟨_, 0, by omega, rfl, rfl, by simp [go_sem], by simp, by simp⟩
  rintro m s' h' ⟨q, hq, rfl, rfl, rfl, q1, q2⟩
  rcases (by omega : q = 0 ∨ q = 1 ∨ q = 2) with rfl | rfl | rfl
  · (repeat' first
      | refine AWP.seq ?_
      | refine AWP.block ?_
      | (refine AWP.skip ?_; try dsimp only [thn, inBlk])
      | (refine AWP.exit ?_; try simp only [thn, inBlk, if_true])
      | (refine AWP.ret ?_; try dsimp only [thn, inBlk])
      | (refine AWP.condT ?_ ?_; (focus (simp [go_sem, i0]; done)))
      | (refine AWP.condF ?_ ?_; (focus (simp [go_sem, i0]; done)))
      | (apply AWP.rE; (focus (simp [go_sem, i0]; exact ⟨rfl, rfl⟩)); try dsimp only [thn, inBlk])
      | fail)
    refine AWP.loopR [0, 1, 6, 7, 28, 29] (fun m s' h2 => ∃ j : Nat, j ≤ text.length ∧ m = text.length - j ∧ h2 = h' ∧ s' = ⟨98, [(0, .string ⟨text.toArray⟩), (1, .string ⟨more.toArray⟩), (6, .string ⟨text.toArray⟩), (7, .int .i64 j), (28, .agg #[.string ⟨text.toArray⟩, .string ⟨more.toArray⟩]), (29, .int .i64 0)]⟩ ∧ isPlain (text.take j)) ?_ ?_
    · exact ⟨_, 0, by omega, rfl, rfl, by simp [go_sem], by simp [isPlain]⟩
    rintro m s' h2 ⟨j, hj, rfl, rfl, rfl, hpl⟩
    by_cases hj2 : j < text.length
    · have hj3 : (j : Int) < text.length := by omega
      have w1 : IntKind.i64.wrap ((j : Int) + 1) = j + 1 := wI64 (by omega) (by omega)
      have si := str_index (P := Try.prog) (t := 9) Try.underlying9 hj2 (kd := .i64)
      by_cases p1 : text[j].toNat < 32
      · have p1' : (text[j].toNat : Int) < 32 := by omega
        (repeat' first
          | refine AWP.seq ?_
          | refine AWP.block ?_
          | (refine AWP.skip ?_; try dsimp only [thn, inBlk])
          | (refine AWP.exit ?_; try simp only [thn, inBlk, if_true])
          | (refine AWP.ret ?_; try dsimp only [thn, inBlk])
          | (refine AWP.condT ?_ ?_; (focus (simp [go_sem, hj3, si, p1']; done)))
          | (refine AWP.condF ?_ ?_; (focus (simp [go_sem, hj3, si, p1']; done)))
          | (apply AWP.rE; (focus (simp [go_sem, hj3, si, p1']; exact ⟨rfl, rfl⟩)); try dsimp only [thn, inBlk])
          | fail)
        simp [bodyQ, thn, inBlk, resA, resV, go_sem]
      have p1' : ¬ (text[j].toNat : Int) < 32 := by omega
      by_cases p2 : 126 < text[j].toNat
      · have p2' : (126 : Int) < text[j].toNat := by omega
        (repeat' first
          | refine AWP.seq ?_
          | refine AWP.block ?_
          | (refine AWP.skip ?_; try dsimp only [thn, inBlk])
          | (refine AWP.exit ?_; try simp only [thn, inBlk, if_true])
          | (refine AWP.ret ?_; try dsimp only [thn, inBlk])
          | (refine AWP.condT ?_ ?_; (focus (simp [go_sem, hj3, si, p1', p2']; done)))
          | (refine AWP.condF ?_ ?_; (focus (simp [go_sem, hj3, si, p1', p2']; done)))
          | (apply AWP.rE; (focus (simp [go_sem, hj3, si, p1', p2']; exact ⟨rfl, rfl⟩)); try dsimp only [thn, inBlk])
          | fail)
        simp [bodyQ, thn, inBlk, resA, resV, go_sem]
      have p2' : ¬ (126 : Int) < text[j].toNat := by omega
      (repeat' first
        | refine AWP.seq ?_
        | refine AWP.block ?_
        | (refine AWP.skip ?_; try dsimp only [thn, inBlk])
        | (refine AWP.exit ?_; try simp only [thn, inBlk, if_true])
        | (refine AWP.ret ?_; try dsimp only [thn, inBlk])
        | (refine AWP.condT ?_ ?_; (focus (simp [go_sem, hj3, si, p1', p2', w1]; done)))
        | (refine AWP.condF ?_ ?_; (focus (simp [go_sem, hj3, si, p1', p2', w1]; done)))
        | (apply AWP.rE; (focus (simp [go_sem, hj3, si, p1', p2', w1]; exact ⟨rfl, rfl⟩)); try dsimp only [thn, inBlk])
        | fail)
      refine ⟨text.length - (j + 1), by omega, j + 1, by omega, rfl, rfl, by simp [go_sem], ?_⟩
      rw [isPlain, List.take_succ_eq_append_getElem hj2]
      intro c hc
      rcases List.mem_append.1 hc with hc | hc
      · exact hpl c hc
      · simp at hc; subst hc; omega
    have hj3 : ¬ (j : Int) < text.length := by omega
    obtain rfl : j = text.length := by omega
    rw [List.take_length] at hpl
    have w1 : IntKind.i64.wrap (1 : Int) = 1 := rfl
    (repeat' first
      | refine AWP.seq ?_
      | refine AWP.block ?_
      | (refine AWP.skip ?_; try dsimp only [thn, inBlk])
      | (refine AWP.exit ?_; try simp only [thn, inBlk, if_true])
      | (refine AWP.ret ?_; try dsimp only [thn, inBlk])
      | (refine AWP.condT ?_ ?_; (focus (simp [go_sem, hj3, w1]; done)))
      | (refine AWP.condF ?_ ?_; (focus (simp [go_sem, hj3, w1]; done)))
      | (apply AWP.rE; (focus (simp [go_sem, hj3, w1]; exact ⟨rfl, rfl⟩)); try dsimp only [thn, inBlk])
      | fail)
    exact ⟨1, by omega, 1, by omega, rfl, rfl, by simp [go_sem], fun _ => hpl, by simp⟩
  · (repeat' first
      | refine AWP.seq ?_
      | refine AWP.block ?_
      | (refine AWP.skip ?_; try dsimp only [thn, inBlk])
      | (refine AWP.exit ?_; try simp only [thn, inBlk, if_true])
      | (refine AWP.ret ?_; try dsimp only [thn, inBlk])
      | (refine AWP.condT ?_ ?_; (focus (simp [go_sem, i1]; done)))
      | (refine AWP.condF ?_ ?_; (focus (simp [go_sem, i1]; done)))
      | (apply AWP.rE; (focus (simp [go_sem, i1]; exact ⟨rfl, rfl⟩)); try dsimp only [thn, inBlk])
      | fail)
    refine AWP.loopR [0, 1, 6, 7, 28, 29] (fun m s' h2 => ∃ j : Nat, j ≤ more.length ∧ m = more.length - j ∧ h2 = h' ∧ s' = ⟨98, [(0, .string ⟨text.toArray⟩), (1, .string ⟨more.toArray⟩), (6, .string ⟨more.toArray⟩), (7, .int .i64 j), (28, .agg #[.string ⟨text.toArray⟩, .string ⟨more.toArray⟩]), (29, .int .i64 1)]⟩ ∧ isPlain (more.take j)) ?_ ?_
    · exact ⟨_, 0, by omega, rfl, rfl, by simp [go_sem], by simp [isPlain]⟩
    rintro m s' h2 ⟨j, hj, rfl, rfl, rfl, hpl⟩
    by_cases hj2 : j < more.length
    · have hj3 : (j : Int) < more.length := by omega
      have w1 : IntKind.i64.wrap ((j : Int) + 1) = j + 1 := wI64 (by omega) (by omega)
      have si := str_index (P := Try.prog) (t := 9) Try.underlying9 hj2 (kd := .i64)
      by_cases p1 : more[j].toNat < 32
      · have p1' : (more[j].toNat : Int) < 32 := by omega
        (repeat' first
          | refine AWP.seq ?_
          | refine AWP.block ?_
          | (refine AWP.skip ?_; try dsimp only [thn, inBlk])
          | (refine AWP.exit ?_; try simp only [thn, inBlk, if_true])
          | (refine AWP.ret ?_; try dsimp only [thn, inBlk])
          | (refine AWP.condT ?_ ?_; (focus (simp [go_sem, hj3, si, p1']; done)))
          | (refine AWP.condF ?_ ?_; (focus (simp [go_sem, hj3, si, p1']; done)))
          | (apply AWP.rE; (focus (simp [go_sem, hj3, si, p1']; exact ⟨rfl, rfl⟩)); try dsimp only [thn, inBlk])
          | fail)
        simp [bodyQ, thn, inBlk, resA, resV, go_sem]
      have p1' : ¬ (more[j].toNat : Int) < 32 := by omega
      by_cases p2 : 126 < more[j].toNat
      · have p2' : (126 : Int) < more[j].toNat := by omega
        (repeat' first
          | refine AWP.seq ?_
          | refine AWP.block ?_
          | (refine AWP.skip ?_; try dsimp only [thn, inBlk])
          | (refine AWP.exit ?_; try simp only [thn, inBlk, if_true])
          | (refine AWP.ret ?_; try dsimp only [thn, inBlk])
          | (refine AWP.condT ?_ ?_; (focus (simp [go_sem, hj3, si, p1', p2']; done)))
          | (refine AWP.condF ?_ ?_; (focus (simp [go_sem, hj3, si, p1', p2']; done)))
          | (apply AWP.rE; (focus (simp [go_sem, hj3, si, p1', p2']; exact ⟨rfl, rfl⟩)); try dsimp only [thn, inBlk])
          | fail)
        simp [bodyQ, thn, inBlk, resA, resV, go_sem]
      have p2' : ¬ (126 : Int) < more[j].toNat := by omega
      (repeat' first
        | refine AWP.seq ?_
        | refine AWP.block ?_
        | (refine AWP.skip ?_; try dsimp only [thn, inBlk])
        | (refine AWP.exit ?_; try simp only [thn, inBlk, if_true])
        | (refine AWP.ret ?_; try dsimp only [thn, inBlk])
        | (refine AWP.condT ?_ ?_; (focus (simp [go_sem, hj3, si, p1', p2', w1]; done)))
        | (refine AWP.condF ?_ ?_; (focus (simp [go_sem, hj3, si, p1', p2', w1]; done)))
        | (apply AWP.rE; (focus (simp [go_sem, hj3, si, p1', p2', w1]; exact ⟨rfl, rfl⟩)); try dsimp only [thn, inBlk])
        | fail)
      refine ⟨more.length - (j + 1), by omega, j + 1, by omega, rfl, rfl, by simp [go_sem], ?_⟩
      rw [isPlain, List.take_succ_eq_append_getElem hj2]
      intro c hc
      rcases List.mem_append.1 hc with hc | hc
      · exact hpl c hc
      · simp at hc; subst hc; omega
    have hj3 : ¬ (j : Int) < more.length := by omega
    obtain rfl : j = more.length := by omega
    rw [List.take_length] at hpl
    have w1 : IntKind.i64.wrap (2 : Int) = 2 := rfl
    (repeat' first
      | refine AWP.seq ?_
      | refine AWP.block ?_
      | (refine AWP.skip ?_; try dsimp only [thn, inBlk])
      | (refine AWP.exit ?_; try simp only [thn, inBlk, if_true])
      | (refine AWP.ret ?_; try dsimp only [thn, inBlk])
      | (refine AWP.condT ?_ ?_; (focus (simp [go_sem, hj3, w1]; done)))
      | (refine AWP.condF ?_ ?_; (focus (simp [go_sem, hj3, w1]; done)))
      | (apply AWP.rE; (focus (simp [go_sem, hj3, w1]; exact ⟨rfl, rfl⟩)); try dsimp only [thn, inBlk])
      | fail)
    exact ⟨0, by omega, 2, by omega, rfl, rfl, by simp [go_sem], fun _ => q1 (by omega), fun _ => hpl⟩
  have pt := q1 (by omega)
  have pm := q2 (by omega)
  (repeat' first
    | refine AWP.seq ?_
    | refine AWP.block ?_
    | (refine AWP.skip ?_; try dsimp only [thn, inBlk])
    | (refine AWP.exit ?_; try simp only [thn, inBlk, if_true])
    | (refine AWP.ret ?_; try dsimp only [thn, inBlk])
    | (refine AWP.condT ?_ ?_; (focus (simp [go_sem]; done)))
    | (refine AWP.condF ?_ ?_; (focus (simp [go_sem]; done)))
    | (apply AWP.rE; (focus (simp [go_sem]; exact ⟨rfl, rfl⟩)); try dsimp only [thn, inBlk])
    | fail)
  refine AWP.callE (by simp [go_sem]; exact ⟨rfl, rfl, rfl, rfl, rfl⟩) (by kernel_rfl) ?_
  refine (new_calls k1).mono ?_
  rintro r h3 ⟨i, rfl, k2⟩
  refine awpL_restE (by simp [go_sem]; exact ⟨rfl, rfl⟩) ?_; try dsimp only [thn, inBlk]
  (repeat' first
    | refine AWP.seq ?_
    | refine AWP.block ?_
    | (refine AWP.skip ?_; try dsimp only [thn, inBlk])
    | (refine AWP.exit ?_; try simp only [thn, inBlk, if_true])
    | (refine AWP.ret ?_; try dsimp only [thn, inBlk])
    | (refine AWP.condT ?_ ?_; (focus (simp [go_sem]; done)))
    | (refine AWP.condF ?_ ?_; (focus (simp [go_sem]; done)))
    | (apply AWP.rE; (focus (simp [go_sem]; exact ⟨rfl, rfl⟩)); try dsimp only [thn, inBlk])
    | fail)
  have k3 := k2.push (.row (text.map B) 5 1 false false)
  refine AWP.callE (by simp [go_sem, bytesA]; exact ⟨rfl, rfl, rfl, rfl, rfl⟩) (by kernel_rfl) ?_
  refine (feed_calls (n := 0) (bs := text) k3.b1 (fun h k => rowB k rfl rfl) ⟨by simp, by simp, by simp, by simp⟩ (by omega)).mono ?_
  rintro r h4 ⟨vl, aw, cw, an, cn, rfl, k4⟩
  rw [feed_text pt (by simp; omega) rfl] at k4 ⊢
  refine awpL_restE (by simp [go_sem]; exact ⟨rfl, rfl⟩) ?_; try dsimp only [thn, inBlk]
  have k5 := pty_mk k4
  simp only [List.nil_append] at k5
  (repeat' first
    | refine AWP.seq ?_
    | refine AWP.block ?_
    | (refine AWP.skip ?_; try dsimp only [thn, inBlk])
    | (refine AWP.exit ?_; try simp only [thn, inBlk, if_true])
    | (refine AWP.ret ?_; try dsimp only [thn, inBlk])
    | (refine AWP.condT ?_ ?_; (focus (simp [go_sem]; done)))
    | (refine AWP.condF ?_ ?_; (focus (simp [go_sem]; done)))
    | (apply AWP.rE; (focus (simp [go_sem]; exact ⟨rfl, rfl⟩)); try dsimp only [thn, inBlk])
    | fail)
  have k6 := k5.push (.row (more.map B) 5 1 false false)
  refine AWP.callE (by simp [go_sem, bytesA]; exact ⟨rfl, rfl, rfl, rfl, rfl⟩) (by kernel_rfl) ?_
  refine (feed_calls (n := 100) (bs := more) k6.b1 (fun h k => rowB k rfl rfl) ⟨by simp; omega, by simp; omega, by simp, by simp⟩ (by omega)).mono ?_
  rintro r h5 ⟨vl, aw, cw, an, cn, rfl, k7⟩
  rw [feed_text pm (by simp; omega) rfl] at k7 ⊢
  refine awpL_restE (by simp [go_sem]; exact ⟨rfl, rfl⟩) ?_; try dsimp only [thn, inBlk]
  have k8 := pty_mk k7
  simp only [] at k8
  (repeat' first
    | refine AWP.seq ?_
    | refine AWP.block ?_
    | (refine AWP.skip ?_; try dsimp only [thn, inBlk])
    | (refine AWP.exit ?_; try simp only [thn, inBlk, if_true])
    | (refine AWP.ret ?_; try dsimp only [thn, inBlk])
    | (refine AWP.condT ?_ ?_; (focus (simp [go_sem]; done)))
    | (refine AWP.condF ?_ ?_; (focus (simp [go_sem]; done)))
    | (apply AWP.rE; (focus (simp [go_sem]; exact ⟨rfl, rfl⟩)); try dsimp only [thn, inBlk])
    | fail)
  have k9 := (k8.push (.row [] 5 1 true false)).os_mk (n := 0) (cap := 0) (off := 0) (cs := []) (by omega) (by simp) (by simp)
  refine AWP.loopR [0, 1, 8, 9, 10] (fun m s' h' => ∃ (j : Nat) (ra : Option Addr) (rc : Nat), j ≤ more.length ∧ m = more.length - j ∧
      s' = ⟨98, [(0, .string ⟨text.toArray⟩), (1, .string ⟨more.toArray⟩), (8, ptr i), (9, .slice ra j rc), (10, .int .i64 j)]⟩ ∧ Own h.asOld h' [ob 5 (.slice ra j rc) (rubsOf j), pty i ⟨text ++ more, false, 0, more, []⟩]) ?_ ?_
  · exact ⟨_, 0, some ⟨h5.next, 0, none⟩, 0, by omega, rfl, by simp [go_sem], k9.d2.d2⟩
  rintro m s' h' ⟨j, ra, rc, hj, rfl, rfl, kj⟩
  by_cases hj2 : j < more.length
  · have hj3 : (j : Int) < more.length := by omega
    have w1 : IntKind.i64.wrap ((j : Int) + 1) = j + 1 := wI64 (by omega) (by omega)
    rcases Nat.mod_two_eq_zero_or_one j with hpar | hpar
    · skip
      have ab := hpar
      have kj' : Own h.asOld h' (os 5 1 (.slice ra j rc) j ((rubsOf j).map B) :: [pty i ⟨text ++ more, false, 0, more, []⟩]) := by have := kj; unfold ob at this; rw [rubs_len] at this; exact this
      obtain ⟨a, cap, hh, e1, k2⟩ := kj'.app1 (P := Try.prog) (t := 25) (xt := 25) (x := .int .u8 8) (i := h'.next) Try.underlying25 tsz5 tby5 tz5 nI25 (by omega) rfl rfl rfl (by omega)
      have v1 : IntKind.i64.wrap 0 = 0 := rfl
      have v2 : IntKind.i64.wrap 8 = 8 := rfl
      have v3 : IntKind.u8.wrap 8 = 8 := rfl
      have v4 : IntKind.i64.wrap 1 = 1 := rfl
      have v5 : IntKind.i64.wrap 119 = 119 := rfl
      have v6 : IntKind.i64.wrap 127 = 127 := rfl
      have v7 : IntKind.u8.wrap 127 = 127 := rfl
      (repeat' first
        | refine AWP.seq ?_
        | refine AWP.block ?_
        | (refine AWP.skip ?_; try dsimp only [thn, inBlk])
        | (refine AWP.exit ?_; try simp only [thn, inBlk, if_true])
        | (refine AWP.ret ?_; try dsimp only [thn, inBlk])
        | (refine AWP.condT ?_ ?_; (focus (simp [go_sem, hj3, ab, v1, v2, v3, v4, v5, v6, v7, e1, w1]; done)))
        | (refine AWP.condF ?_ ?_; (focus (simp [go_sem, hj3, ab, v1, v2, v3, v4, v5, v6, v7, e1, w1]; done)))
        | (apply AWP.rE; (focus (simp [go_sem, hj3, ab, v1, v2, v3, v4, v5, v6, v7, e1, w1]; exact ⟨rfl, rfl⟩)); try dsimp only [thn, inBlk])
        | fail)
      refine ⟨more.length - (j + 1), by omega, j + 1, a, cap, by omega, rfl, by simp [go_sem], ?_⟩
      unfold ob
      rw [rubs_len, rubs_succ, hpar, List.map_append]
      exact k2
    · skip
      have ab := hpar
      have kj' : Own h.asOld h' (os 5 1 (.slice ra j rc) j ((rubsOf j).map B) :: [pty i ⟨text ++ more, false, 0, more, []⟩]) := by have := kj; unfold ob at this; rw [rubs_len] at this; exact this
      obtain ⟨a, cap, hh, e1, k2⟩ := kj'.app1 (P := Try.prog) (t := 25) (xt := 25) (x := .int .u8 127) (i := h'.next) Try.underlying25 tsz5 tby5 tz5 nI25 (by omega) rfl rfl rfl (by omega)
      have v1 : IntKind.i64.wrap 0 = 0 := rfl
      have v2 : IntKind.i64.wrap 8 = 8 := rfl
      have v3 : IntKind.u8.wrap 8 = 8 := rfl
      have v4 : IntKind.i64.wrap 1 = 1 := rfl
      have v5 : IntKind.i64.wrap 119 = 119 := rfl
      have v6 : IntKind.i64.wrap 127 = 127 := rfl
      have v7 : IntKind.u8.wrap 127 = 127 := rfl
      (repeat' first
        | refine AWP.seq ?_
        | refine AWP.block ?_
        | (refine AWP.skip ?_; try dsimp only [thn, inBlk])
        | (refine AWP.exit ?_; try simp only [thn, inBlk, if_true])
        | (refine AWP.ret ?_; try dsimp only [thn, inBlk])
        | (refine AWP.condT ?_ ?_; (focus (simp [go_sem, hj3, ab, v1, v2, v3, v4, v5, v6, v7, e1, w1]; done)))
        | (refine AWP.condF ?_ ?_; (focus (simp [go_sem, hj3, ab, v1, v2, v3, v4, v5, v6, v7, e1, w1]; done)))
        | (apply AWP.rE; (focus (simp [go_sem, hj3, ab, v1, v2, v3, v4, v5, v6, v7, e1, w1]; exact ⟨rfl, rfl⟩)); try dsimp only [thn, inBlk])
        | fail)
      refine ⟨more.length - (j + 1), by omega, j + 1, a, cap, by omega, rfl, by simp [go_sem], ?_⟩
      unfold ob
      rw [rubs_len, rubs_succ, hpar, List.map_append]
      exact k2
  have hj3 : ¬ (j : Int) < more.length := by omega
  obtain rfl : j = more.length := by omega
  (repeat' first
    | refine AWP.seq ?_
    | refine AWP.block ?_
    | (refine AWP.skip ?_; try dsimp only [thn, inBlk])
    | (refine AWP.exit ?_; try simp only [thn, inBlk, if_true])
    | (refine AWP.ret ?_; try dsimp only [thn, inBlk])
    | (refine AWP.condT ?_ ?_; (focus (simp [go_sem, hj3]; done)))
    | (refine AWP.condF ?_ ?_; (focus (simp [go_sem, hj3]; done)))
    | (apply AWP.rE; (focus (simp [go_sem, hj3]; exact ⟨rfl, rfl⟩)); try dsimp only [thn, inBlk])
    | fail)
  refine AWP.callE (by simp [go_sem]; exact ⟨rfl, rfl, rfl, rfl, rfl⟩) (by kernel_rfl) ?_
  have hrl := rubs_len more.length
  refine (feed_calls (n := 100) (bs := rubsOf more.length) kj.b1 (fun h k => k.ob_bytes) ⟨by simp; omega, by simp; omega, by simp, by simp⟩ (by omega)).mono ?_
  rintro r h6 ⟨vl, aw, cw, an, cn, rfl, k10⟩
  obtain ⟨y1, y2, y3⟩ := run_rubs (rubsOf more.length) text more ⟨text ++ more, false, 0, [], []⟩ (rubs_all _) hrl.symm rfl
  have ef : Pt.feed (rubsOf more.length) ⟨text ++ more, false, 0, more, []⟩ = Pt.run (rubsOf more.length) ⟨text ++ more, false, 0, [], []⟩ := rfl
  rw [ef] at k10 ⊢
  generalize Pt.run (rubsOf more.length) ⟨text ++ more, false, 0, [], []⟩ = rn at *
  simp only [List.length_nil, Nat.zero_add] at y2 y3
  refine awpL_restE (by simp [go_sem]; exact ⟨rfl, rfl⟩) ?_; try dsimp only [thn, inBlk]
  have k11 := pty_mk k10
  (repeat' first
    | refine AWP.seq ?_
    | refine AWP.block ?_
    | (refine AWP.skip ?_; try dsimp only [thn, inBlk])
    | (refine AWP.exit ?_; try simp only [thn, inBlk, if_true])
    | (refine AWP.ret ?_; try dsimp only [thn, inBlk])
    | (refine AWP.condT ?_ ?_; (focus (simp [go_sem]; done)))
    | (refine AWP.condF ?_ ?_; (focus (simp [go_sem]; done)))
    | (apply AWP.rE; (focus (simp [go_sem]; exact ⟨rfl, rfl⟩)); try dsimp only [thn, inBlk])
    | fail)
  refine AWP.callE (by simp [go_sem]; exact ⟨rfl, rfl, rfl, rfl, rfl⟩) (by kernel_rfl) ?_
  refine (line_calls k11).mono ?_
  rintro r h7 ⟨rfl, rfl⟩
  have w3 : IntKind.i64.wrap (3 * (more.length : Int)) = 3 * more.length := wI64 (by omega) (by omega)
  refine awpL_restE (by simp [go_sem, y1, y2, y3, w3]; exact ⟨rfl, rfl⟩) ?_; try dsimp only [thn, inBlk]
  (repeat' first
    | refine AWP.seq ?_
    | refine AWP.block ?_
    | (refine AWP.skip ?_; try dsimp only [thn, inBlk])
    | (refine AWP.exit ?_; try simp only [thn, inBlk, if_true])
    | (refine AWP.ret ?_; try dsimp only [thn, inBlk])
    | (refine AWP.condT ?_ ?_; (focus (simp [go_sem]; done)))
    | (refine AWP.condF ?_ ?_; (focus (simp [go_sem]; done)))
    | (apply AWP.rE; (focus (simp [go_sem]; exact ⟨rfl, rfl⟩)); try dsimp only [thn, inBlk])
    | fail)
  simp [bodyQ, thn, inBlk, resA, resV, go_sem]
end L21
