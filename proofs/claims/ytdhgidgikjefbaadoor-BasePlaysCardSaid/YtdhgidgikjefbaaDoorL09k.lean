import Derived.Test.YtdhgidgikjefbaaDoorL09j
open Go Ab Go.Proofs
namespace L09
set_option autoImplicit false
set_option linter.unusedSimpArgs false
set_option linter.unusedVariables false

/-! ### As many as may be -/
def lt (i : Nat) : List UInt8 := [UInt8.ofNat (97 + i), 64, 82]
theorem letter_calls {O : Old} {h : AHeap} {R : List Chunk} {i : Nat} (k : Own O h R) (hi : i ≤ 100) : ACalls Tryd.prog 16 #[.int .i64 i] h fun v h' => v = tx (lt i) ∧ Own O h' R := by
  refine ACalls.of_awp (args := [.int .i64 i]) (n := 8) Tryd.func16 rfl rfl (by show 1 ≤ 8; omega) ?_
  obtain ⟨j, hj⟩ : ∃ j, j = 97 + i := ⟨_, rfl⟩
  obtain ⟨A, hA⟩ : ∃ A, A = UInt8.ofNat j := ⟨_, rfl⟩
  have v3 : IntKind.i64.wrap (97 + (i : Int)) = (j : Int) := by rw [wI64 (by omega) (by omega)]; omega
  have v5 : IntKind.u8.wrap (j : Int) = (A.toNat : Int) := by rw [IntKind.wrap_u8, hA]; simp
  have hlt : lt i = [A, 64, 82] := by simp only [lt, hA, hj]
  have s1 : strR Tryd.prog (h.push (.row [.int .u8 A.toNat, .int .u8 64, .int .u8 82] 5 1 true false)) 60 9 (.slice (some ⟨h.next, 0, none⟩) 3 3) = some (.string ⟨#[A, 64, 82]⟩) :=
    strR_new (bs := [A, 64, 82]) Tryd.underlying60 Tryd.underlying5 Tryd.underlying9 rfl rfl
  rw [hlt]
  have k1 := (k.push (.row [.int .u8 A.toNat, .int .u8 64, .int .u8 82] 5 1 true false)).tail
  (repeat' first
    | refine AWP.seq ?_
    | refine AWP.block ?_
    | (refine AWP.skip ?_; try dsimp only [thn, inBlk])
    | (refine AWP.exit ?_; try simp only [thn, inBlk, if_true, reduceIte, Nat.reduceEqDiff])
    | (refine AWP.ret ?_; try dsimp only [thn, inBlk])
    | (refine AWP.condT ?_ ?_; (focus (simp [go_sem, v3, v5, s1]; done)))
    | (refine AWP.condF ?_ ?_; (focus (simp [go_sem, v3, v5, s1]; done)))
    | (apply AWP.rE; (focus (simp [go_sem, v3, v5, s1]; exact ⟨rfl, rfl⟩)); try dsimp only [thn, inBlk])
    | fail)
  simp [bodyQ, thn, inBlk, resA, resV, go_sem]
  exact k1
abbrev ent (i : Nat) (z : Int) : En := ⟨lt i, [], z, 0, false⟩
def FB (j : Nat) : BL := (List.range j).map fun i => (lt i, ent i 1)
theorem lt_len (i : Nat) : (lt i).length = 3 := rfl
theorem lt_good : ∀ i, i < 24 → nameB (lt i) = true := by decide +kernel
theorem FB_none : ∀ j, j < 24 → (get (FB (min j 16)) (lt j)).isNone = true := by decide +kernel
theorem FB_len (j : Nat) : (FB j).length = j := by simp [FB]
theorem FB_put (j : Nat) (h : j < 24) : putR (FB (min j 16)) (ent j 1) = (if j < 16 then 0 else 2, FB (min (j + 1) 16)) := by
  have hg : goodE (ent j 1) = true := by simp only [goodE, lt_good j h]; rfl
  have hn : get (FB (min j 16)) (lt j) = none := by simpa using FB_none j h
  unfold putR
  rw [if_neg (by rw [hg]; decide)]
  by_cases h16 : j < 16
  · rw [if_neg (by rw [FB_len]; omega), if_pos h16, set_none hn, show min j 16 = j by omega, show min (j + 1) 16 = j + 1 by omega]
    simp only [FB, List.range_succ, List.map_append, List.map_cons, List.map_nil]
  · rw [if_pos ⟨hn, by rw [FB_len]; omega⟩, if_neg h16, show min j 16 = 16 by omega, show min (j + 1) 16 = 16 by omega]
theorem FB_bi (j : Nat) (h : j ≤ 24) : BI (FB (min j 16)) := by
  induction j with
  | zero => exact BI.nil
  | succ j ih =>
    have := (ih (by omega)).put (e := ent j 1) (by rw [lt_len]; omega)
    rw [FB_put j (by omega)] at this
    exact this
abbrev zB : List UInt8 := [122, 64, 82]
abbrev yB : List UInt8 := [121, 64, 82]
abbrev zEn : En := ⟨zB, [], 1, 0, false⟩
abbrev yEn : En := ⟨yB, [], 1, 0, false⟩
def L2 (K : Nat) : BL := (putR (FB 16) (ent K 2)).2
def L3 (K : Nat) : BL := dropT (L2 K) (lt K)
def L4 (K : Nat) : BL := (putR (L3 K) zEn).2
def L5 (K : Nat) : BL := (putR (L4 K) yEn).2
theorem f2 : ∀ K, K < 16 → (putR (FB 16) (ent K 2)).1 = 0 := by decide +kernel
theorem f3 : ∀ K, K < 16 → (getR (L2 K) (lt K)).1.life = 2 ∧ (getR (L2 K) (lt K)).2 = true := by decide +kernel
theorem f4 : ∀ K, K < 16 → (get (L2 K) (lt K)).isSome = true := by decide +kernel
theorem f5 : ∀ K, K < 16 → (putR (L3 K) zEn).1 = 0 := by decide +kernel
theorem f6 : ∀ K, K < 16 → (putR (L4 K) yEn).1 = 2 := by decide +kernel
theorem f7 : ∀ K, K < 16 → (L5 K).length = 16 := by decide +kernel

set_option maxHeartbeats 8000000 in
theorem full_calls {h : AHeap} {z y : Int} : ACalls Tryd.prog 5 #[.int .i64 z, .int .i64 y] h fun r _ => r = .bool true := by
  refine Own.of_wf fun k0 => ?_
  refine ACalls.of_awp (args := [.int .i64 z, .int .i64 y]) (n := 80) Tryd.func5 rfl rfl (by show 2 ≤ 80; omega) ?_
  (repeat' first
    | refine AWP.seq ?_
    | refine AWP.block ?_
    | (refine AWP.skip ?_; try dsimp only [thn, inBlk])
    | (refine AWP.exit ?_; try simp only [thn, inBlk, if_true, reduceIte, Nat.reduceEqDiff])
    | (refine AWP.ret ?_; try dsimp only [thn, inBlk])
    | (refine AWP.condT ?_ ?_; (focus (simp [go_sem]; done)))
    | (refine AWP.condF ?_ ?_; (focus (simp [go_sem]; done)))
    | (apply AWP.rE; (focus (simp [go_sem]; exact ⟨rfl, rfl⟩)); try dsimp only [thn, inBlk])
    | fail)
  refine AWP.callE (by simp [go_sem]; exact ⟨rfl, rfl, rfl, rfl, rfl⟩) (by kernel_rfl) ?_
  refine (speaks_calls k0).mono ?_
  rintro r h1 ⟨rfl, k1⟩
  refine awpL_restE (by simp [go_sem]; exact ⟨rfl, rfl⟩) ?_; try dsimp only [thn, inBlk]
  (repeat' first
    | refine AWP.seq ?_
    | refine AWP.block ?_
    | (refine AWP.skip ?_; try dsimp only [thn, inBlk])
    | (refine AWP.exit ?_; try simp only [thn, inBlk, if_true, reduceIte, Nat.reduceEqDiff])
    | (refine AWP.ret ?_; try dsimp only [thn, inBlk])
    | (refine AWP.condT ?_ ?_; (focus (simp [go_sem]; done)))
    | (refine AWP.condF ?_ ?_; (focus (simp [go_sem]; done)))
    | (apply AWP.rE; (focus (simp [go_sem]; exact ⟨rfl, rfl⟩)); try dsimp only [thn, inBlk])
    | fail)
  refine AWP.callE (by simp [go_sem]; exact ⟨rfl, rfl, rfl, rfl, rfl⟩) (by kernel_rfl) ?_
  refine (new_calls k1).mono ?_
  rintro r h2 ⟨i, rfl, k2⟩
  obtain ⟨M, hM, wz⟩ := and_mask z 7 (by omega)
  obtain ⟨N, hN⟩ : ∃ N, N = 16 + M := ⟨_, rfl⟩
  have wN : IntKind.i64.wrap (16 + (M : Int)) = (N : Int) := by rw [wI64 (by omega) (by omega)]; omega
  refine awpL_restE (by simp [go_sem]; exact ⟨rfl, rfl⟩) ?_; try dsimp only [thn, inBlk]
  (repeat' first
    | refine AWP.seq ?_
    | refine AWP.block ?_
    | (refine AWP.skip ?_; try dsimp only [thn, inBlk])
    | (refine AWP.exit ?_; try simp only [thn, inBlk, if_true, reduceIte, Nat.reduceEqDiff])
    | (refine AWP.ret ?_; try dsimp only [thn, inBlk])
    | (refine AWP.condT ?_ ?_; (focus (simp [go_sem]; done)))
    | (refine AWP.condF ?_ ?_; (focus (simp [go_sem]; done)))
    | (apply AWP.rE; (focus (simp [go_sem]; exact ⟨rfl, rfl⟩)); try dsimp only [thn, inBlk])
    | fail)
  refine AWP.loopR [0, 1, 5, 6] (fun m s h' => ∃ j : Nat, j ≤ N ∧ m = N - j ∧ s = ⟨80, [(0, .int .i64 z), (1, .int .i64 y), (5, ptr i), (6, .int .i64 j)]⟩ ∧ Own h.asOld h' [bsc i (FB (min j 16))]) ?_ ?_
  · exact ⟨_, 0, by omega, rfl, rfl, k2⟩
  rintro m s hB ⟨j, hj, rfl, rfl, kB⟩
  by_cases hjm : j < N
  · have hjm' : (j : Int) < N := by omega
    have w1 : IntKind.i64.wrap ((j : Int) + 1) = ((j + 1 : Nat) : Int) := by rw [wI64 (by omega) (by omega)]; omega
    (repeat' first
      | refine AWP.seq ?_
      | refine AWP.block ?_
      | (refine AWP.skip ?_; try dsimp only [thn, inBlk])
      | (refine AWP.exit ?_; try simp only [thn, inBlk, if_true, reduceIte, Nat.reduceEqDiff])
      | (refine AWP.ret ?_; try dsimp only [thn, inBlk])
      | (refine AWP.condT ?_ ?_; (focus (simp [go_sem, wz, wN, hjm']; done)))
      | (refine AWP.condF ?_ ?_; (focus (simp [go_sem, wz, wN, hjm']; done)))
      | (apply AWP.rE; (focus (simp [go_sem, wz, wN, hjm']; exact ⟨rfl, rfl⟩)); try dsimp only [thn, inBlk])
      | fail)
    refine AWP.callE (by simp [go_sem]; exact ⟨rfl, rfl, rfl, rfl, rfl⟩) (by kernel_rfl) ?_
    refine (letter_calls (i := j) kB (by omega)).mono ?_
    rintro r h3 ⟨rfl, k3⟩
    have b2 := build2 (nm := lt j) (z := 1)
    refine awpL_toCall (by simp [go_sem, ↓b2]; exact ⟨rfl, rfl, rfl, rfl, rfl⟩) (by kernel_rfl) ?_
    refine (put_calls (e := ent j 1) (FB_bi j (by omega)) k3 (by rw [lt_len]; omega)).mono ?_
    rintro r h4 ⟨rfl, k4⟩
    rw [FB_put j (by omega)] at k4 ⊢
    by_cases h16 : j < 16
    · have h16' : (j : Int) < 16 := by omega
      rw [if_pos h16]
      refine awpL_restE (by simp [go_sem, h16']; exact ⟨rfl, rfl⟩) ?_; try dsimp only [thn, inBlk]
      (repeat' first
        | refine AWP.seq ?_
        | refine AWP.block ?_
        | (refine AWP.skip ?_; try dsimp only [thn, inBlk])
        | (refine AWP.exit ?_; try simp only [thn, inBlk, if_true, reduceIte, Nat.reduceEqDiff])
        | (refine AWP.ret ?_; try dsimp only [thn, inBlk])
        | (refine AWP.condT ?_ ?_; (focus (simp [go_sem, w1]; done)))
        | (refine AWP.condF ?_ ?_; (focus (simp [go_sem, w1]; done)))
        | (apply AWP.rE; (focus (simp [go_sem, w1]; exact ⟨rfl, rfl⟩)); try dsimp only [thn, inBlk])
        | fail)
      exact ⟨N - (j + 1), by omega, j + 1, by omega, rfl, by simp [go_sem], k4⟩
    · have h16' : ¬ (j : Int) < 16 := by omega
      rw [if_neg h16]
      refine awpL_restE (by simp [go_sem, h16']; exact ⟨rfl, rfl⟩) ?_; try dsimp only [thn, inBlk]
      (repeat' first
        | refine AWP.seq ?_
        | refine AWP.block ?_
        | (refine AWP.skip ?_; try dsimp only [thn, inBlk])
        | (refine AWP.exit ?_; try simp only [thn, inBlk, if_true, reduceIte, Nat.reduceEqDiff])
        | (refine AWP.ret ?_; try dsimp only [thn, inBlk])
        | (refine AWP.condT ?_ ?_; (focus (simp [go_sem, w1]; done)))
        | (refine AWP.condF ?_ ?_; (focus (simp [go_sem, w1]; done)))
        | (apply AWP.rE; (focus (simp [go_sem, w1]; exact ⟨rfl, rfl⟩)); try dsimp only [thn, inBlk])
        | fail)
      exact ⟨N - (j + 1), by omega, j + 1, by omega, rfl, by simp [go_sem], k4⟩
  · have hjm' : ¬ (j : Int) < N := by omega
    rw [show min j 16 = 16 by omega] at kB
    obtain ⟨K, hK, wy⟩ := and_mask y 15 (by omega)
    have hK : K < 16 := by omega
    have bi : BI (FB 16) := FB_bi 16 (by omega)
    (repeat' first
      | refine AWP.seq ?_
      | refine AWP.block ?_
      | (refine AWP.skip ?_; try dsimp only [thn, inBlk])
      | (refine AWP.exit ?_; try simp only [thn, inBlk, if_true, reduceIte, Nat.reduceEqDiff])
      | (refine AWP.ret ?_; try dsimp only [thn, inBlk])
      | (refine AWP.condT ?_ ?_; (focus (simp [go_sem, wz, wN, hjm']; done)))
      | (refine AWP.condF ?_ ?_; (focus (simp [go_sem, wz, wN, hjm']; done)))
      | (apply AWP.rE; (focus (simp [go_sem, wz, wN, hjm']; exact ⟨rfl, rfl⟩)); try dsimp only [thn, inBlk])
      | fail)
    refine AWP.callE (by simp [go_sem, wy]; exact ⟨rfl, rfl, rfl, rfl, rfl⟩) (by kernel_rfl) ?_
    refine (letter_calls (i := K) kB (by omega)).mono ?_
    rintro r h3 ⟨rfl, k3⟩
    have b2 := build2 (nm := lt K) (z := 2)
    refine awpL_restE (by simp [go_sem]; exact ⟨rfl, rfl⟩) ?_; try dsimp only [thn, inBlk]
    (repeat' first
      | refine AWP.seq ?_
      | refine AWP.block ?_
      | (refine AWP.skip ?_; try dsimp only [thn, inBlk])
      | (refine AWP.exit ?_; try simp only [thn, inBlk, if_true, reduceIte, Nat.reduceEqDiff])
      | (refine AWP.ret ?_; try dsimp only [thn, inBlk])
      | (refine AWP.condT ?_ ?_; (focus (simp [go_sem]; done)))
      | (refine AWP.condF ?_ ?_; (focus (simp [go_sem]; done)))
      | (apply AWP.rE; (focus (simp [go_sem]; exact ⟨rfl, rfl⟩)); try dsimp only [thn, inBlk])
      | fail)
    refine AWP.callE (by simp [go_sem, ↓b2]; exact ⟨rfl, rfl, rfl, rfl, rfl⟩) (by kernel_rfl) ?_
    refine (put_calls (e := ent K 2) bi k3 (by rw [lt_len]; omega)).mono ?_
    rintro r h4 ⟨rfl, k4⟩
    have bi2 : BI (L2 K) := bi.put (e := ent K 2) (by rw [lt_len]; omega)
    rw [f2 K hK]
    refine awpL_restE (by simp [go_sem]; exact ⟨rfl, rfl⟩) ?_; try dsimp only [thn, inBlk]
    (repeat' first
      | refine AWP.seq ?_
      | refine AWP.block ?_
      | (refine AWP.skip ?_; try dsimp only [thn, inBlk])
      | (refine AWP.exit ?_; try simp only [thn, inBlk, if_true, reduceIte, Nat.reduceEqDiff])
      | (refine AWP.ret ?_; try dsimp only [thn, inBlk])
      | (refine AWP.condT ?_ ?_; (focus (simp [go_sem]; done)))
      | (refine AWP.condF ?_ ?_; (focus (simp [go_sem]; done)))
      | (apply AWP.rE; (focus (simp [go_sem]; exact ⟨rfl, rfl⟩)); try dsimp only [thn, inBlk])
      | fail)
    refine AWP.callE (by simp [go_sem]; exact ⟨rfl, rfl, rfl, rfl, rfl⟩) (by kernel_rfl) ?_
    refine (get_calls (n := lt K) bi2 k4 (by rw [lt_len]; omega)).mono ?_
    rintro r h5 ⟨rfl, k5⟩
    obtain ⟨g1, g2⟩ := f3 K hK
    rw [g2]
    generalize hx : (getR (L2 K) (lt K)).1 = x at g1 ⊢
    have k6 := k5.push (.row (en x) 34 20 true false)
    refine awpL_restE (by simp [go_sem, ↓allocE]; exact ⟨rfl, rfl⟩) ?_; try dsimp only [thn, inBlk]
    (repeat' first
      | refine AWP.seq ?_
      | refine AWP.block ?_
      | (refine AWP.skip ?_; try dsimp only [thn, inBlk])
      | (refine AWP.exit ?_; try simp only [thn, inBlk, if_true, reduceIte, Nat.reduceEqDiff])
      | (refine AWP.ret ?_; try dsimp only [thn, inBlk])
      | (refine AWP.condT ?_ ?_; (focus (simp [go_sem]; done)))
      | (refine AWP.condF ?_ ?_; (focus (simp [go_sem]; done)))
      | (apply AWP.rE; (focus (simp [go_sem]; exact ⟨rfl, rfl⟩)); try dsimp only [thn, inBlk])
      | fail)
    refine AWP.callE (by simp [go_sem]; exact ⟨rfl, rfl, rfl, rfl, rfl⟩) (by kernel_rfl) ?_
    refine (drop_calls (n := lt K) bi2 k6.b1 (by rw [lt_len]; omega)).mono ?_
    rintro r h7 ⟨rfl, k7⟩
    have c7 := k7.b1.obj
    have bi3 : BI (L3 K) := bi2.drop _
    rw [f4 K hK]
    have bz : buildP Tryd.prog 34 [(0, .string ⟨#[122, 64, 82]⟩), (2, .int .i64 1)] = some (enV zEn) := build2
    have by' : buildP Tryd.prog 34 [(0, .string ⟨#[121, 64, 82]⟩), (2, .int .i64 1)] = some (enV yEn) := build2
    refine awpL_restE (by simp [go_sem]; exact ⟨rfl, rfl⟩) ?_; try dsimp only [thn, inBlk]
    (repeat' first
      | refine AWP.seq ?_
      | refine AWP.block ?_
      | (refine AWP.skip ?_; try dsimp only [thn, inBlk])
      | (refine AWP.exit ?_; try simp only [thn, inBlk, if_true, reduceIte, Nat.reduceEqDiff])
      | (refine AWP.ret ?_; try dsimp only [thn, inBlk])
      | (refine AWP.condT ?_ ?_; (focus (simp [go_sem]; done)))
      | (refine AWP.condF ?_ ?_; (focus (simp [go_sem]; done)))
      | (apply AWP.rE; (focus (simp [go_sem]; exact ⟨rfl, rfl⟩)); try dsimp only [thn, inBlk])
      | fail)
    refine AWP.callE (by simp [go_sem, c7, g1, ↓bz]; exact ⟨rfl, rfl, rfl, rfl, rfl⟩) (by kernel_rfl) ?_
    refine (put_calls (e := zEn) bi3 k7 (by decide)).mono ?_
    rintro r h8 ⟨rfl, k8⟩
    have bi4 : BI (L4 K) := bi3.put (e := zEn) (by decide)
    rw [f5 K hK]
    refine awpL_toCall (by simp [go_sem, ↓by']; exact ⟨rfl, rfl, rfl, rfl, rfl⟩) (by kernel_rfl) ?_
    refine (put_calls (e := yEn) bi4 k8 (by decide)).mono ?_
    rintro r h9 ⟨rfl, k9⟩
    have bi5 : BI (L5 K) := bi4.put (e := yEn) (by decide)
    rw [f6 K hK]
    refine awpL_toCall (by simp [go_sem]; exact ⟨rfl, rfl, rfl, rfl, rfl⟩) (by kernel_rfl) ?_
    refine (list_calls bi5 k9).mono ?_
    rintro r h10 ⟨a10, c10, rfl, k10⟩
    rw [listL_len, f7 K hK]
    refine awpL_restE (by simp [go_sem]; exact ⟨rfl, rfl⟩) ?_; try dsimp only [thn, inBlk]
    (repeat' first
      | refine AWP.seq ?_
      | refine AWP.block ?_
      | (refine AWP.skip ?_; try dsimp only [thn, inBlk])
      | (refine AWP.exit ?_; try simp only [thn, inBlk, if_true, reduceIte, Nat.reduceEqDiff])
      | (refine AWP.ret ?_; try dsimp only [thn, inBlk])
      | (refine AWP.condT ?_ ?_; (focus (simp [go_sem]; done)))
      | (refine AWP.condF ?_ ?_; (focus (simp [go_sem]; done)))
      | (apply AWP.rE; (focus (simp [go_sem]; exact ⟨rfl, rfl⟩)); try dsimp only [thn, inBlk])
      | fail)
    simp [bodyQ, thn, inBlk, resA, resV, go_sem]
end L09
