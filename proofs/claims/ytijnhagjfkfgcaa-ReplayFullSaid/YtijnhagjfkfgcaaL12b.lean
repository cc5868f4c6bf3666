import Derived.Test.YtijnhagjfkfgcaaL12a
open Go Ab Go.Proofs
namespace L12
set_option autoImplicit false
set_option linter.unusedSimpArgs false
set_option linter.unusedVariables false

abbrev ptr (i : Nat) : Value := .pointer (some ⟨i, 0, none⟩)
/-- Above by more than clocks may part. -/
def abv (a b : Int) : Bool := decide (b + 10 < a)
def I64 (a : Int) : Prop := -9223372036854775808 ≤ a ∧ a ≤ 9223372036854775807

theorem wsub {a b : Int} (ha : I64 a) (hb : I64 b) (h : b ≤ a) : IntKind.u64.wrap (IntKind.u64.wrap a - IntKind.u64.wrap b) = a - b := by
  unfold I64 at ha hb
  simp only [IntKind.wrap, IntKind.signed, IntKind.bits]
  simp
  omega

theorem above_calls {h : AHeap} {a b : Int} (ha : I64 a) (hb : I64 b) : ACalls Try.prog 15 #[.int .i64 a, .int .i64 b] h fun v h' => v = .bool (abv a b) ∧ h' = h := by
  refine ACalls.of_awp (args := [.int .i64 a, .int .i64 b]) (n := 16) Try.func15 rfl rfl (by show 2 ≤ 16; omega) ?_
  by_cases hlt : b < a
  · have hw := wsub ha hb (by omega)
    have e : abv a b = decide (10 < a - b) := by simp only [abv]; congr 1; simp; omega
    (repeat' first
      | refine AWP.seq ?_
      | refine AWP.block ?_
      | (refine AWP.skip ?_; try dsimp only [thn, inBlk])
      | (refine AWP.exit ?_; try simp only [thn, inBlk, if_true])
      | (refine AWP.ret ?_; try dsimp only [thn, inBlk])
      | (refine AWP.condT ?_ ?_; (focus (simp [go_sem, hlt, hw]; done)))
      | (refine AWP.condF ?_ ?_; (focus (simp [go_sem, hlt, hw]; done)))
      | (apply AWP.rE; (focus (simp [go_sem, hlt, hw]; exact ⟨rfl, rfl⟩)); try dsimp only [thn, inBlk])
      | fail)
    simp [bodyQ, thn, inBlk, resA, resV, go_sem, e]
  · have e : abv a b = false := by simp [abv]; omega
    (repeat' first
      | refine AWP.seq ?_
      | refine AWP.block ?_
      | (refine AWP.skip ?_; try dsimp only [thn, inBlk])
      | (refine AWP.exit ?_; try simp only [thn, inBlk, if_true])
      | (refine AWP.ret ?_; try dsimp only [thn, inBlk])
      | (refine AWP.condT ?_ ?_; (focus (simp [go_sem, hlt]; done)))
      | (refine AWP.condF ?_ ?_; (focus (simp [go_sem, hlt]; done)))
      | (apply AWP.rE; (focus (simp [go_sem, hlt]; exact ⟨rfl, rfl⟩)); try dsimp only [thn, inBlk])
      | fail)
    simp [bodyQ, thn, inBlk, resA, resV, go_sem, e]
theorem refAbove_calls {h : AHeap} {a b : Int} (ha : I64 a) (hb : I64 b) : ACalls Try.prog 18 #[.int .i64 a, .int .i64 b] h fun v h' => v = .bool (abv a b) ∧ h' = h := by
  refine ACalls.of_awp (args := [.int .i64 a, .int .i64 b]) (n := 14) Try.func18 rfl rfl (by show 2 ≤ 14; omega) ?_
  by_cases hlt : a ≤ b
  · have e : abv a b = false := by simp [abv]; omega
    (repeat' first
      | refine AWP.seq ?_
      | refine AWP.block ?_
      | (refine AWP.skip ?_; try dsimp only [thn, inBlk])
      | (refine AWP.exit ?_; try simp only [thn, inBlk, if_true])
      | (refine AWP.ret ?_; try dsimp only [thn, inBlk])
      | (refine AWP.condT ?_ ?_; (focus (simp [go_sem, hlt]; done)))
      | (refine AWP.condF ?_ ?_; (focus (simp [go_sem, hlt]; done)))
      | (apply AWP.rE; (focus (simp [go_sem, hlt]; exact ⟨rfl, rfl⟩)); try dsimp only [thn, inBlk])
      | fail)
    simp [bodyQ, thn, inBlk, resA, resV, go_sem, e]
  · have hw := wsub ha hb (by omega)
    have e : abv a b = decide (10 < a - b) := by simp only [abv]; congr 1; simp; omega
    (repeat' first
      | refine AWP.seq ?_
      | refine AWP.block ?_
      | (refine AWP.skip ?_; try dsimp only [thn, inBlk])
      | (refine AWP.exit ?_; try simp only [thn, inBlk, if_true])
      | (refine AWP.ret ?_; try dsimp only [thn, inBlk])
      | (refine AWP.condT ?_ ?_; (focus (simp [go_sem, hlt, hw]; done)))
      | (refine AWP.condF ?_ ?_; (focus (simp [go_sem, hlt, hw]; done)))
      | (apply AWP.rE; (focus (simp [go_sem, hlt, hw]; exact ⟨rfl, rfl⟩)); try dsimp only [thn, inBlk])
      | fail)
    simp [bodyQ, thn, inBlk, resA, resV, go_sem, e]

abbrev one : Unit → Value := fun _ => .int .i64 1
abbrev crow (m : Nat) (c : Bool) (u : Int) : AObj := .row [.map (some m), .bool c, .int .i64 u] 49 3 true false
/-- The program's cache: what it remembers, in order; whether it is closed; up to when. -/
def cch (i : Nat) (l : List Au) (c : Bool) (u : Int) : Chunk := ex fun m : Nat => star [cell i (crow m c u), mpc auV one m (l.map fun a => (a, ()))]
theorem cch_iff {O : Old} {h : AHeap} {R : List Chunk} {i : Nat} {l : List Au} {c : Bool} {u : Int} : Own O h (cch i l c u :: R) ↔ ∃ m, Own O h (cell i (crow m c u) :: mpc auV one m (l.map fun a => (a, ())) :: R) := by
  simp only [cch, Own.ex_iff, Own.star_iff, List.cons_append, List.nil_append]

theorem new_calls {O : Old} {h : AHeap} {R : List Chunk} (k : Own O h R) (now : Int) : ACalls Try.prog 9 #[.int .i64 now] h fun r h' => ∃ i, r = ptr i ∧ Own O h' (cch i [] false now :: R) := by
  refine ACalls.of_awp (args := [.int .i64 now]) (n := 7) Try.func9 rfl rfl (by show 1 ≤ 7; omega) ?_
  have k1 := (k.map_new (ke := auV) (ve := one)).push (crow h.next false now)
  (repeat' first
    | refine AWP.seq ?_
    | refine AWP.block ?_
    | (refine AWP.skip ?_; try dsimp only [thn, inBlk])
    | (refine AWP.exit ?_; try simp only [thn, inBlk, if_true])
    | (refine AWP.ret ?_; try dsimp only [thn, inBlk])
    | (refine AWP.condT ?_ ?_; (focus (simp [go_sem]; done)))
    | (refine AWP.condF ?_ ?_; (focus (simp [go_sem]; done)))
    | (apply AWP.rE; (focus (simp [go_sem]; exact ⟨rfl, rfl⟩)); try dsimp only [thn, inBlk])
    | fail)
  simp [bodyQ, thn, inBlk, resA, resV, go_sem]
  exact cch_iff.2 ⟨h.next, k1⟩

theorem len_calls {O : Old} {h : AHeap} {R : List Chunk} {i : Nat} {l : List Au} {c : Bool} {u : Int} (k : Own O h (cch i l c u :: R)) : ACalls Try.prog 14 #[ptr i] h fun v h' => v = .int .i64 l.length ∧ h' = h := by
  obtain ⟨m, k1⟩ := cch_iff.1 k
  have c1 := k1.obj
  obtain ⟨es, clock, c2, c3⟩ := k1.b1.map_obj
  rw [List.length_map] at c3
  refine ACalls.of_awp (args := [ptr i]) (n := 8) Try.func14 rfl rfl (by show 1 ≤ 8; omega) ?_
  (repeat' first
    | refine AWP.seq ?_
    | refine AWP.block ?_
    | (refine AWP.skip ?_; try dsimp only [thn, inBlk])
    | (refine AWP.exit ?_; try simp only [thn, inBlk, if_true])
    | (refine AWP.ret ?_; try dsimp only [thn, inBlk])
    | (refine AWP.condT ?_ ?_; (focus (simp [go_sem, c1, c2, c3]; done)))
    | (refine AWP.condF ?_ ?_; (focus (simp [go_sem, c1, c2, c3]; done)))
    | (apply AWP.rE; (focus (simp [go_sem, c1, c2, c3]; exact ⟨rfl, rfl⟩)); try dsimp only [thn, inBlk])
    | fail)
  simp [bodyQ, thn, inBlk, resA, resV, go_sem]

/-- Up to when it is closed behind a restart. -/
def unt (c : Bool) (u now : Int) : Int := if c = true ∧ now ≤ u then u else now
theorem restart_calls {O : Old} {h : AHeap} {R : List Chunk} {i : Nat} {l : List Au} {c : Bool} {u now : Int} (k : Own O h (cch i l c u :: R)) : ACalls Try.prog 10 #[ptr i, .int .i64 now] h fun v h' => Own O h' (cch i [] true (unt c u now) :: R) := by
  obtain ⟨m, k1⟩ := cch_iff.1 k
  have c1 := k1.obj
  obtain ⟨h2, e2, _, k2⟩ := k1.b1.map_clear (P := Try.prog) (t := 47) Try.underlying47
  have k3 := k2.b1
  have c3 := k3.obj
  refine ACalls.of_awp (args := [ptr i, .int .i64 now]) (n := 28) Try.func10 rfl rfl (by show 2 ≤ 28; omega) ?_
  cases c with
  | false =>
    have k4 := (k3.set (crow m false now)).set (crow m true now)
    (repeat' first
      | refine AWP.seq ?_
      | refine AWP.block ?_
      | (refine AWP.skip ?_; try dsimp only [thn, inBlk])
      | (refine AWP.exit ?_; try simp only [thn, inBlk, if_true])
      | (refine AWP.ret ?_; try dsimp only [thn, inBlk])
      | (refine AWP.condT ?_ ?_; (focus (simp [go_sem, c1, e2, c3]; done)))
      | (refine AWP.condF ?_ ?_; (focus (simp [go_sem, c1, e2, c3]; done)))
      | (apply AWP.rE; (focus (simp [go_sem, c1, e2, c3]; exact ⟨rfl, rfl⟩)); try dsimp only [thn, inBlk])
      | fail)
    simp [bodyQ, thn, inBlk, resA, resV, go_sem]
    exact cch_iff.2 ⟨m, k4⟩
  | true =>
    by_cases hn : u < now
    · have e : unt true u now = now := by simp [unt]; omega
      have k4 := (k3.set (crow m true now)).set (crow m true now)
      (repeat' first
        | refine AWP.seq ?_
        | refine AWP.block ?_
        | (refine AWP.skip ?_; try dsimp only [thn, inBlk])
        | (refine AWP.exit ?_; try simp only [thn, inBlk, if_true])
        | (refine AWP.ret ?_; try dsimp only [thn, inBlk])
        | (refine AWP.condT ?_ ?_; (focus (simp [go_sem, c1, e2, c3, hn]; done)))
        | (refine AWP.condF ?_ ?_; (focus (simp [go_sem, c1, e2, c3, hn]; done)))
        | (apply AWP.rE; (focus (simp [go_sem, c1, e2, c3, hn]; exact ⟨rfl, rfl⟩)); try dsimp only [thn, inBlk])
        | fail)
      simp [bodyQ, thn, inBlk, resA, resV, go_sem]
      rw [e]
      exact cch_iff.2 ⟨m, k4⟩
    · have e : unt true u now = u := by simp [unt]; omega
      have k4 := k3.set (crow m true u)
      (repeat' first
        | refine AWP.seq ?_
        | refine AWP.block ?_
        | (refine AWP.skip ?_; try dsimp only [thn, inBlk])
        | (refine AWP.exit ?_; try simp only [thn, inBlk, if_true])
        | (refine AWP.ret ?_; try dsimp only [thn, inBlk])
        | (refine AWP.condT ?_ ?_; (focus (simp [go_sem, c1, e2, c3, hn]; done)))
        | (refine AWP.condF ?_ ?_; (focus (simp [go_sem, c1, e2, c3, hn]; done)))
        | (apply AWP.rE; (focus (simp [go_sem, c1, e2, c3, hn]; exact ⟨rfl, rfl⟩)); try dsimp only [thn, inBlk])
        | fail)
      simp [bodyQ, thn, inBlk, resA, resV, go_sem]
      rw [e]
      exact cch_iff.2 ⟨m, k4⟩

abbrev rrow (v : Value) (c : Bool) (u : Int) : AObj := .row [v, .bool c, .int .i64 u] 30 3 true false
/-- The reference's. -/
def rch (i : Nat) (l : List Au) (c : Bool) (u : Int) : Chunk := ex fun v : Value => star [cell i (rrow v c u), os 35 19 v l.length (l.map au).flatten]
theorem rch_iff {O : Old} {h : AHeap} {R : List Chunk} {i : Nat} {l : List Au} {c : Bool} {u : Int} : Own O h (rch i l c u :: R) ↔ ∃ v, Own O h (cell i (rrow v c u) :: os 35 19 v l.length (l.map au).flatten :: R) := by
  simp only [rch, Own.ex_iff, Own.star_iff, List.cons_append, List.nil_append]

theorem refRestart_calls {O : Old} {h : AHeap} {R : List Chunk} {i : Nat} {l : List Au} {c : Bool} {u now : Int} (k : Own O h (rch i l c u :: R)) : ACalls Try.prog 11 #[ptr i, .int .i64 now] h fun v h' => Own O h' (rch i [] true (unt c u now) :: R) := by
  obtain ⟨w, k0⟩ := rch_iff.1 k
  obtain ⟨a, cap, rfl⟩ := k0.b1.os_val
  have k1 := k0.d1
  have c1 := k1.obj
  have k2 := k1.set (rrow (.slice none 0 0) c u)
  refine ACalls.of_awp (args := [ptr i, .int .i64 now]) (n := 27) Try.func11 rfl rfl (by show 2 ≤ 27; omega) ?_
  have fin : ∀ {hh : AHeap} {u' : Int}, Own O hh (cell i (rrow (.slice none 0 0) true u') :: R) → Own O hh (rch i [] true u' :: R) := fun kk => rch_iff.2 ⟨_, (kk.nil 35 19).b1⟩
  cases c with
  | false =>
    have k4 := (k2.set (rrow (.slice none 0 0) false now)).set (rrow (.slice none 0 0) true now)
    (repeat' first
      | refine AWP.seq ?_
      | refine AWP.block ?_
      | (refine AWP.skip ?_; try dsimp only [thn, inBlk])
      | (refine AWP.exit ?_; try simp only [thn, inBlk, if_true])
      | (refine AWP.ret ?_; try dsimp only [thn, inBlk])
      | (refine AWP.condT ?_ ?_; (focus (simp [go_sem, c1]; done)))
      | (refine AWP.condF ?_ ?_; (focus (simp [go_sem, c1]; done)))
      | (apply AWP.rE; (focus (simp [go_sem, c1]; exact ⟨rfl, rfl⟩)); try dsimp only [thn, inBlk])
      | fail)
    simp [bodyQ, thn, inBlk, resA, resV, go_sem]
    exact fin k4
  | true =>
    by_cases hn : u < now
    · have e : unt true u now = now := by simp [unt]; omega
      have k4 := (k2.set (rrow (.slice none 0 0) true now)).set (rrow (.slice none 0 0) true now)
      (repeat' first
        | refine AWP.seq ?_
        | refine AWP.block ?_
        | (refine AWP.skip ?_; try dsimp only [thn, inBlk])
        | (refine AWP.exit ?_; try simp only [thn, inBlk, if_true])
        | (refine AWP.ret ?_; try dsimp only [thn, inBlk])
        | (refine AWP.condT ?_ ?_; (focus (simp [go_sem, c1, hn]; done)))
        | (refine AWP.condF ?_ ?_; (focus (simp [go_sem, c1, hn]; done)))
        | (apply AWP.rE; (focus (simp [go_sem, c1, hn]; exact ⟨rfl, rfl⟩)); try dsimp only [thn, inBlk])
        | fail)
      simp [bodyQ, thn, inBlk, resA, resV, go_sem]
      rw [e]
      exact fin k4
    · have e : unt true u now = u := by simp [unt]; omega
      have k4 := k2.set (rrow (.slice none 0 0) true u)
      (repeat' first
        | refine AWP.seq ?_
        | refine AWP.block ?_
        | (refine AWP.skip ?_; try dsimp only [thn, inBlk])
        | (refine AWP.exit ?_; try simp only [thn, inBlk, if_true])
        | (refine AWP.ret ?_; try dsimp only [thn, inBlk])
        | (refine AWP.condT ?_ ?_; (focus (simp [go_sem, c1, hn]; done)))
        | (refine AWP.condF ?_ ?_; (focus (simp [go_sem, c1, hn]; done)))
        | (apply AWP.rE; (focus (simp [go_sem, c1, hn]; exact ⟨rfl, rfl⟩)); try dsimp only [thn, inBlk])
        | fail)
      simp [bodyQ, thn, inBlk, resA, resV, go_sem]
      rw [e]
      exact fin k4
end L12
