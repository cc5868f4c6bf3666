import Derived.Test.YtijnhagjfkfgcaaL12j
open Go Ab Go.Proofs
namespace L12
set_option autoImplicit false
set_option linter.unusedSimpArgs false
set_option linter.unusedVariables false

abbrev xi (now : Int) (i : Nat) : Au := ⟨[120, 64, 82], now + ((i % 3 : Nat) : Int), i, [0, 0, 0, 0, 0, 0, 0, 0, 0, 0, 0, 0, 0, 0, 0, 0]⟩
def xs (now : Int) (k : Nat) : List Au := (List.range k).map (xi now)
theorem xi_ok {now : Int} {i : Nat} (h1 : 0 ≤ now) (h2 : now ≤ 1099511627776) (hi : i ≤ 1000) : (xi now i).Ok := ⟨by simp, ⟨by show -9223372036854775808 ≤ now + ((i % 3 : Nat) : Int); omega, by show now + ((i % 3 : Nat) : Int) ≤ 9223372036854775807; omega⟩, ⟨by show (0 : Int) ≤ i; omega, by show (i : Int) ≤ 18446744073709551615; omega⟩, rfl⟩
theorem xi_mem {now : Int} {i k : Nat} : xi now i ∈ xs now k ↔ i < k := by
  simp only [xs, List.mem_map, List.mem_range]
  constructor
  · rintro ⟨j, hj, e⟩
    have : (j : Int) = i := congrArg Au.no e
    omega
  · exact fun h => ⟨i, h, rfl⟩
theorem xs_tm {now : Int} {k : Nat} : ∀ x ∈ xs now k, now ≤ x.tm ∧ x.tm ≤ now + 2 := fun x hx => by
  simp only [xs, List.mem_map, List.mem_range] at hx
  obtain ⟨j, hj, rfl⟩ := hx
  exact ⟨by show now ≤ now + ((j % 3 : Nat) : Int); omega, by show now + ((j % 3 : Nat) : Int) ≤ now + 2; omega⟩
theorem xs_left {now n2 : Int} {k : Nat} (h : n2 ≤ now + 10) : left (xs now k) n2 = xs now k := by
  unfold left
  rw [List.filter_eq_self]
  intro x hx
  have := xs_tm x hx
  simp [abv]; omega
theorem xs_cok {now : Int} {k : Nat} (h1 : 0 ≤ now) (h2 : now ≤ 1099511627776) (hk : k ≤ 16) : Cok (xs now k) 0 where
  ok := fun x hx => by
    simp only [xs, List.mem_map, List.mem_range] at hx
    obtain ⟨j, hj, rfl⟩ := hx
    exact xi_ok h1 h2 (by omega)
  nd := nodup_map (fun a b e => by have : (a : Int) = b := congrArg Au.no e; omega) List.nodup_range
  len := by simp [xs]; exact hk
  un := ⟨by omega, by omega⟩
theorem xs_succ {now : Int} {k : Nat} : xs now (k + 1) = xs now k ++ [xi now k] := by simp [xs, List.range_succ]

theorem full_seen {now : Int} {i : Nat} (hn : 0 ≤ now) : seenR (xs now (min i 16)) false 0 (xi now i) now = if i < 16 then (0, xs now (min (i + 1) 16)) else (2, xs now (min (i + 1) 16)) := by
  have hl := xs_left (now := now) (n2 := now) (k := min i 16) (by omega)
  have h1 : ¬ (abv (xi now i).tm now = true ∨ abv now (xi now i).tm = true) := by
    simp only [abv, decide_eq_true_eq]
    show ¬ (now + 10 < now + ((i % 3 : Nat) : Int) ∨ now + ((i % 3 : Nat) : Int) + 10 < now)
    omega
  have h2 : ¬ (false = true ∧ abv (xi now i).tm 0 = false) := by rintro ⟨h, _⟩; cases h
  have h3 : ¬ xi now i ∈ left (xs now (min i 16)) now := by rw [hl, xi_mem]; omega
  unfold seenR
  rw [if_neg h1, if_neg h2, if_neg h3, hl]
  by_cases hi : i < 16
  · rw [if_neg (by simp [xs]; omega), if_pos hi, show min i 16 = i by omega, show min (i + 1) 16 = i + 1 by omega, xs_succ]
  · rw [if_pos (by simp [xs]; omega), if_neg hi, show min i 16 = 16 by omega, show min (i + 1) 16 = 16 by omega]
theorem replay_seen {now n2 : Int} {i : Nat} (hi : i < 16) (h1 : now ≤ n2) (h2 : n2 ≤ now + 7) : seenR (xs now 16) false 0 (xi now i) n2 = (66, xs now 16) := by
  have hl := xs_left (now := now) (n2 := n2) (k := 16) (by omega)
  have g1 : ¬ (abv (xi now i).tm n2 = true ∨ abv n2 (xi now i).tm = true) := by
    simp only [abv, decide_eq_true_eq]
    show ¬ (n2 + 10 < now + ((i % 3 : Nat) : Int) ∨ now + ((i % 3 : Nat) : Int) + 10 < n2)
    omega
  have g2 : ¬ (false = true ∧ abv (xi now i).tm 0 = false) := by rintro ⟨h, _⟩; cases h
  have g3 : xi now i ∈ left (xs now 16) n2 := by rw [hl, xi_mem]; exact hi
  unfold seenR
  rw [if_neg g1, if_neg g2, if_pos g3, hl]

set_option maxHeartbeats 8000000 in
theorem full_calls {h : AHeap} {n more now : Int} (hn : I64 now) (hm : I64 more) :
    ACalls Try.prog 6 #[.int .i64 n, .int .i64 more, .int .i64 now] h fun r _ => r = .bool true := by
  refine Own.of_wf fun k0 => ?_
  refine ACalls.of_awp (args := [.int .i64 n, .int .i64 more, .int .i64 now]) (n := 67) Try.func6 rfl rfl (by show 3 ≤ 67; omega) ?_
  (repeat' first
    | refine AWP.seq ?_
    | refine AWP.block ?_
    | (refine AWP.skip ?_; try dsimp only [thn, inBlk])
    | (refine AWP.exit ?_; try simp only [thn, inBlk, if_true])
    | (refine AWP.ret ?_; try dsimp only [thn, inBlk])
    | (refine AWP.condT ?_ ?_; (focus (simp [go_sem]; done)))
    | (refine AWP.condF ?_ ?_; (focus (simp [go_sem]; done)))
    | (apply AWP.rE; (focus (simp [go_sem]; exact ⟨rfl, rfl⟩)); try dsimp only [thn, inBlk])
    | fail)
  refine AWP.callE (by simp [go_sem]; exact ⟨rfl, rfl, rfl, rfl, rfl⟩) (by kernel_rfl) ?_
  refine (speaks_calls k0).mono ?_
  rintro r h1 ⟨rfl, k1⟩
  refine awpL_restE (by simp [go_sem]; exact ⟨rfl, rfl⟩) ?_; try dsimp only [thn, inBlk]
  by_cases hn0 : now < 100
  · (repeat' first
      | refine AWP.seq ?_
      | refine AWP.block ?_
      | (refine AWP.skip ?_; try dsimp only [thn, inBlk])
      | (refine AWP.exit ?_; try simp only [thn, inBlk, if_true])
      | (refine AWP.ret ?_; try dsimp only [thn, inBlk])
      | (refine AWP.condT ?_ ?_; (focus (simp [go_sem, hn0]; done)))
      | (refine AWP.condF ?_ ?_; (focus (simp [go_sem, hn0]; done)))
      | (apply AWP.rE; (focus (simp [go_sem, hn0]; exact ⟨rfl, rfl⟩)); try dsimp only [thn, inBlk])
      | fail)
    simp [bodyQ, thn, inBlk, resA, resV, go_sem]
  by_cases hn1 : 549755813888 < now
  · (repeat' first
      | refine AWP.seq ?_
      | refine AWP.block ?_
      | (refine AWP.skip ?_; try dsimp only [thn, inBlk])
      | (refine AWP.exit ?_; try simp only [thn, inBlk, if_true])
      | (refine AWP.ret ?_; try dsimp only [thn, inBlk])
      | (refine AWP.condT ?_ ?_; (focus (simp [go_sem, hn0, hn1]; done)))
      | (refine AWP.condF ?_ ?_; (focus (simp [go_sem, hn0, hn1]; done)))
      | (apply AWP.rE; (focus (simp [go_sem, hn0, hn1]; exact ⟨rfl, rfl⟩)); try dsimp only [thn, inBlk])
      | fail)
    simp [bodyQ, thn, inBlk, resA, resV, go_sem]
  (repeat' first
    | refine AWP.seq ?_
    | refine AWP.block ?_
    | (refine AWP.skip ?_; try dsimp only [thn, inBlk])
    | (refine AWP.exit ?_; try simp only [thn, inBlk, if_true])
    | (refine AWP.ret ?_; try dsimp only [thn, inBlk])
    | (refine AWP.condT ?_ ?_; (focus (simp [go_sem, hn0, hn1]; done)))
    | (refine AWP.condF ?_ ?_; (focus (simp [go_sem, hn0, hn1]; done)))
    | (apply AWP.rE; (focus (simp [go_sem, hn0, hn1]; exact ⟨rfl, rfl⟩)); try dsimp only [thn, inBlk])
    | fail)
  refine AWP.callE (by simp [go_sem]; exact ⟨rfl, rfl, rfl, rfl, rfl⟩) (by kernel_rfl) ?_
  refine (new_calls k1 0).mono ?_
  rintro r h3 ⟨i, rfl, k3⟩
  obtain ⟨x, hx15, wx⟩ := and_mask n 15 (by omega)
  have w16 : IntKind.i64.wrap (16 + (x : Int)) = ((16 + x : Nat) : Int) := by rw [wI64 (by omega) (by omega)]; omega
  refine awpL_restE (by simp [go_sem]; exact ⟨rfl, rfl⟩) ?_; try dsimp only [thn, inBlk]
  (repeat' first
    | refine AWP.seq ?_
    | refine AWP.block ?_
    | (refine AWP.skip ?_; try dsimp only [thn, inBlk])
    | (refine AWP.exit ?_; try simp only [thn, inBlk, if_true])
    | (refine AWP.ret ?_; try dsimp only [thn, inBlk])
    | (refine AWP.condT ?_ ?_; (focus (simp [go_sem]; done)))
    | (refine AWP.condF ?_ ?_; (focus (simp [go_sem]; done)))
    | (apply AWP.rE; (focus (simp [go_sem]; exact ⟨rfl, rfl⟩)); try dsimp only [thn, inBlk])
    | fail)
  refine AWP.loopR [0, 1, 2, 7, 8] (fun m s h' => ∃ j : Nat, j ≤ 16 + x ∧ m = 16 + x - j ∧ s = ⟨67, [(0, .int .i64 n), (1, .int .i64 more), (2, .int .i64 now), (7, ptr i), (8, .int .i64 j)]⟩ ∧
    Own h.asOld h' [cch i (xs now (min j 16)) false 0]) ?_ ?_
  · exact ⟨_, 0, by omega, rfl, by simp [go_sem], k3⟩
  rintro m s h' ⟨j, hj, rfl, rfl, kt⟩
  have hc := xs_cok (now := now) (k := min j 16) (by omega) (by omega) (by omega)
  by_cases hj2 : j < 16 + x
  · have hj3 : (j : Int) < 16 + (x : Int) := by omega
    have wj : IntKind.i64.wrap ((j : Int) + 1) = ((j + 1 : Nat) : Int) := by rw [wI64 (by omega) (by omega)]; omega
    have hq1 : (j : Int).tmod 3 = ((j % 3 : Nat) : Int) := tmod_nat j 3
    have wq1 : IntKind.i64.wrap (now + ((j % 3 : Nat) : Int)) = now + ((j % 3 : Nat) : Int) := wI64 (by omega) (by omega)
    have wu : IntKind.u64.wrap (j : Int) = j := wU64 (by omega) (by omega)
    have k5 := kt.push (.row (au (xi now j)) 35 19 true false)
    have hok : (xi now j).Ok := xi_ok (by omega) (by omega) (by omega)
    have hcall := seen_calls (a := xi now j) (now := now) k5.b1 hc hok hn
    rw [full_seen (by omega)] at hcall
    obtain ⟨q, hq⟩ : ∃ q : Nat, q = j % 3 := ⟨_, rfl⟩
    rw [← hq] at hq1 wq1
    (repeat' first
      | refine AWP.seq ?_
      | refine AWP.block ?_
      | (refine AWP.skip ?_; try dsimp only [thn, inBlk])
      | (refine AWP.exit ?_; try simp only [thn, inBlk, if_true])
      | (refine AWP.ret ?_; try dsimp only [thn, inBlk])
      | (refine AWP.condT ?_ ?_; (focus (simp [go_sem, wx, w16, hj3, hj2, hq1, wq1, wu]; done)))
      | (refine AWP.condF ?_ ?_; (focus (simp [go_sem, wx, w16, hj3, hj2, hq1, wq1, wu]; done)))
      | (apply AWP.rE; (focus (simp [go_sem, wx, w16, hj3, hj2, hq1, wq1, wu]; exact ⟨rfl, rfl⟩)); try dsimp only [thn, inBlk])
      | fail)
    refine AWP.callE (by simp [go_sem]; exact ⟨rfl, rfl, rfl, rfl, rfl⟩) (by kernel_rfl) ?_
    subst hq
    by_cases hj16 : j < 16
    · rw [if_pos hj16] at hcall
      have hj17 : (j : Int) < 16 := by omega
      refine hcall.mono ?_
      rintro r h5 ⟨rfl, k6⟩
      refine awpL_restE (by simp [go_sem, hj16, hj17]; exact ⟨rfl, rfl⟩) ?_; try dsimp only [thn, inBlk]
      (repeat' first
        | refine AWP.seq ?_
        | refine AWP.block ?_
        | (refine AWP.skip ?_; try dsimp only [thn, inBlk])
        | (refine AWP.exit ?_; try simp only [thn, inBlk, if_true])
        | (refine AWP.ret ?_; try dsimp only [thn, inBlk])
        | (refine AWP.condT ?_ ?_; (focus (simp [go_sem, wj]; done)))
        | (refine AWP.condF ?_ ?_; (focus (simp [go_sem, wj]; done)))
        | (apply AWP.rE; (focus (simp [go_sem, wj]; exact ⟨rfl, rfl⟩)); try dsimp only [thn, inBlk])
        | fail)
      refine ⟨16 + x - (j + 1), by omega, j + 1, by omega, rfl, by simp [go_sem], ?_⟩
      (refine Own.sbl ?_ (k6); repeat' first | exact Sbl.nil _ | with_reducible exact Sbl.rfl _ | (apply Sbl.cons) | (apply Sbl.skip) | with_reducible exact Fnd.head _ _ | (apply Fnd.tail))
    · rw [if_neg hj16] at hcall
      have hj17 : ¬ (j : Int) < 16 := by omega
      refine hcall.mono ?_
      rintro r h5 ⟨rfl, k6⟩
      refine awpL_restE (by simp [go_sem, hj16, hj17]; exact ⟨rfl, rfl⟩) ?_; try dsimp only [thn, inBlk]
      (repeat' first
        | refine AWP.seq ?_
        | refine AWP.block ?_
        | (refine AWP.skip ?_; try dsimp only [thn, inBlk])
        | (refine AWP.exit ?_; try simp only [thn, inBlk, if_true])
        | (refine AWP.ret ?_; try dsimp only [thn, inBlk])
        | (refine AWP.condT ?_ ?_; (focus (simp [go_sem, wj]; done)))
        | (refine AWP.condF ?_ ?_; (focus (simp [go_sem, wj]; done)))
        | (apply AWP.rE; (focus (simp [go_sem, wj]; exact ⟨rfl, rfl⟩)); try dsimp only [thn, inBlk])
        | fail)
      refine ⟨16 + x - (j + 1), by omega, j + 1, by omega, rfl, by simp [go_sem], ?_⟩
      (refine Own.sbl ?_ (k6); repeat' first | exact Sbl.nil _ | with_reducible exact Sbl.rfl _ | (apply Sbl.cons) | (apply Sbl.skip) | with_reducible exact Fnd.head _ _ | (apply Fnd.tail))
  · have hj3 : ¬ (j : Int) < 16 + (x : Int) := by omega
    rw [show min j 16 = 16 by omega] at kt
    have hc := xs_cok (now := now) (k := 16) (by omega) (by omega) (by omega)
    obtain ⟨y, hy7, wy⟩ := and_mask more 7 (by omega)
    have wn : IntKind.i64.wrap (now + (y : Int)) = now + y := wI64 (by omega) (by omega)
    (repeat' first
      | refine AWP.seq ?_
      | refine AWP.block ?_
      | (refine AWP.skip ?_; try dsimp only [thn, inBlk])
      | (refine AWP.exit ?_; try simp only [thn, inBlk, if_true])
      | (refine AWP.ret ?_; try dsimp only [thn, inBlk])
      | (refine AWP.condT ?_ ?_; (focus (simp [go_sem, wx, w16, hj3]; done)))
      | (refine AWP.condF ?_ ?_; (focus (simp [go_sem, wx, w16, hj3]; done)))
      | (apply AWP.rE; (focus (simp [go_sem, wx, w16, hj3]; exact ⟨rfl, rfl⟩)); try dsimp only [thn, inBlk])
      | fail)
    refine AWP.loopR [1, 2, 7, 10] (fun m s h' => ∃ j : Nat, j ≤ 16 ∧ m = 16 - j ∧ s = ⟨67, [(1, .int .i64 more), (2, .int .i64 now), (7, ptr i), (10, .int .i64 j)]⟩ ∧
      Own h.asOld h' [cch i (xs now 16) false 0]) ?_ ?_
    · exact ⟨_, 0, by omega, rfl, by simp [go_sem], kt⟩
    rintro m s h' ⟨j, hj, rfl, rfl, kt⟩
    by_cases hj2 : j < 16
    · have hj3 : (j : Int) < 16 := by omega
      have wj : IntKind.i64.wrap ((j : Int) + 1) = ((j + 1 : Nat) : Int) := by rw [wI64 (by omega) (by omega)]; omega
      have hq1 : (j : Int).tmod 3 = ((j % 3 : Nat) : Int) := tmod_nat j 3
      have wq1 : IntKind.i64.wrap (now + ((j % 3 : Nat) : Int)) = now + ((j % 3 : Nat) : Int) := wI64 (by omega) (by omega)
      have wu : IntKind.u64.wrap (j : Int) = j := wU64 (by omega) (by omega)
      have k5 := kt.push (.row (au (xi now j)) 35 19 true false)
      have hok : (xi now j).Ok := xi_ok (by omega) (by omega) (by omega)
      have hcall := seen_calls (a := xi now j) (now := now + y) k5.b1 hc hok ⟨by omega, by omega⟩
      rw [replay_seen hj2 (by omega) (by omega)] at hcall
      obtain ⟨q, hq⟩ : ∃ q : Nat, q = j % 3 := ⟨_, rfl⟩
      rw [← hq] at hq1 wq1
      (repeat' first
        | refine AWP.seq ?_
        | refine AWP.block ?_
        | (refine AWP.skip ?_; try dsimp only [thn, inBlk])
        | (refine AWP.exit ?_; try simp only [thn, inBlk, if_true])
        | (refine AWP.ret ?_; try dsimp only [thn, inBlk])
        | (refine AWP.condT ?_ ?_; (focus (simp [go_sem, hj3, hj2, hq1, wq1, wu]; done)))
        | (refine AWP.condF ?_ ?_; (focus (simp [go_sem, hj3, hj2, hq1, wq1, wu]; done)))
        | (apply AWP.rE; (focus (simp [go_sem, hj3, hj2, hq1, wq1, wu]; exact ⟨rfl, rfl⟩)); try dsimp only [thn, inBlk])
        | fail)
      refine AWP.callE (by simp [go_sem, wy, wn]; exact ⟨rfl, rfl, rfl, rfl, rfl⟩) (by kernel_rfl) ?_
      subst hq
      refine hcall.mono ?_
      rintro r h5 ⟨rfl, k6⟩
      refine awpL_restE (by simp [go_sem]; exact ⟨rfl, rfl⟩) ?_; try dsimp only [thn, inBlk]
      (repeat' first
        | refine AWP.seq ?_
        | refine AWP.block ?_
        | (refine AWP.skip ?_; try dsimp only [thn, inBlk])
        | (refine AWP.exit ?_; try simp only [thn, inBlk, if_true])
        | (refine AWP.ret ?_; try dsimp only [thn, inBlk])
        | (refine AWP.condT ?_ ?_; (focus (simp [go_sem, wj]; done)))
        | (refine AWP.condF ?_ ?_; (focus (simp [go_sem, wj]; done)))
        | (apply AWP.rE; (focus (simp [go_sem, wj]; exact ⟨rfl, rfl⟩)); try dsimp only [thn, inBlk])
        | fail)
      refine ⟨16 - (j + 1), by omega, j + 1, by omega, rfl, by simp [go_sem], ?_⟩
      (refine Own.sbl ?_ (k6); repeat' first | exact Sbl.nil _ | with_reducible exact Sbl.rfl _ | (apply Sbl.cons) | (apply Sbl.skip) | with_reducible exact Fnd.head _ _ | (apply Fnd.tail))
    · have hj3 : ¬ (j : Int) < 16 := by omega
      have hl : (xs now 16).length = 16 := by simp [xs]
      (repeat' first
        | refine AWP.seq ?_
        | refine AWP.block ?_
        | (refine AWP.skip ?_; try dsimp only [thn, inBlk])
        | (refine AWP.exit ?_; try simp only [thn, inBlk, if_true])
        | (refine AWP.ret ?_; try dsimp only [thn, inBlk])
        | (refine AWP.condT ?_ ?_; (focus (simp [go_sem, hj3, hj2]; done)))
        | (refine AWP.condF ?_ ?_; (focus (simp [go_sem, hj3, hj2]; done)))
        | (apply AWP.rE; (focus (simp [go_sem, hj3, hj2]; exact ⟨rfl, rfl⟩)); try dsimp only [thn, inBlk])
        | fail)
      refine AWP.callE (by simp [go_sem]; exact ⟨rfl, rfl, rfl, rfl, rfl⟩) (by kernel_rfl) ?_
      refine (len_calls kt).mono ?_
      rintro r h5 ⟨rfl, rfl⟩
      refine awpL_restE (by simp [go_sem, hl]; exact ⟨rfl, rfl⟩) ?_; try dsimp only [thn, inBlk]
      (repeat' first
        | refine AWP.seq ?_
        | refine AWP.block ?_
        | (refine AWP.skip ?_; try dsimp only [thn, inBlk])
        | (refine AWP.exit ?_; try simp only [thn, inBlk, if_true])
        | (refine AWP.ret ?_; try dsimp only [thn, inBlk])
        | (refine AWP.condT ?_ ?_; (focus (simp [go_sem]; done)))
        | (refine AWP.condF ?_ ?_; (focus (simp [go_sem]; done)))
        | (apply AWP.rE; (focus (simp [go_sem]; exact ⟨rfl, rfl⟩)); try dsimp only [thn, inBlk])
        | fail)
      simp [bodyQ, thn, inBlk, resA, resV, go_sem]
end L12
