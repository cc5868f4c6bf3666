import Derived.Test.YtjlcednpohgamaaL17e
open Go Ab Go.Proofs
namespace L17
set_option autoImplicit false
set_option linter.unusedSimpArgs false
set_option linter.unusedVariables false

theorem feed_1 : feedR [] 0 [1, 0, 2, 97] = ([], [1, 0, 2, 97], 0) := by
  have h : nxt [1, 0, 2, 97] 0 = (none, [1, 0, 2, 97], 0) := by decide
  simp [feedR, parse_none h]
theorem feed_2 : feedR [1, 0, 2, 97] 0 [98, 0] = ([(1, [97, 98])], [0], 0) := by
  have h : nxt [1, 0, 2, 97, 98, 0] 0 = (some (1, [97, 98]), [0], 0) := by decide
  have h2 : nxt [0] 0 = (none, [0], 0) := by decide
  simp [feedR, parse_some h, parse_none h2]

set_option maxHeartbeats 2000000 in
theorem speaks_calls {O : Old} {h : AHeap} {R : List Chunk} (k : Own O h R) : ACalls Try.prog 7 #[] h fun v h' => v = .bool true ∧ Own O h' R := by
  refine ACalls.of_awp (args := []) (n := 59) Try.func7 rfl rfl (by show 0 ≤ 59; omega) ?_
  (repeat' first
    | refine AWP.seq ?_
    | refine AWP.block ?_
    | (refine AWP.skip ?_; try dsimp only [thn, inBlk])
    | (refine AWP.exit ?_; try simp only [thn, inBlk, if_true])
    | (refine AWP.ret ?_; try dsimp only [thn, inBlk])
    | (refine AWP.condT ?_ ?_; (focus (simp [go_sem]; done)))
    | (refine AWP.condF ?_ ?_; (focus (simp [go_sem]; done)))
    | (apply AWP.rE; (focus (simp [go_sem]; exact ⟨rfl, rfl⟩)); try dsimp only [thn, inBlk])
    | fail)
  refine AWP.callE (by simp [go_sem]; exact ⟨rfl, rfl, rfl, rfl, rfl⟩) (by kernel_rfl) ?_
  refine (new_calls k).mono ?_
  rintro v h1 ⟨i, rfl, k1⟩
  refine awpL_restE (by simp [go_sem]; exact ⟨rfl, rfl⟩) ?_; try dsimp only [thn, inBlk]
  (repeat' first
    | refine AWP.seq ?_
    | refine AWP.block ?_
    | (refine AWP.skip ?_; try dsimp only [thn, inBlk])
    | (refine AWP.exit ?_; try simp only [thn, inBlk, if_true])
    | (refine AWP.ret ?_; try dsimp only [thn, inBlk])
    | (refine AWP.condT ?_ ?_; (focus (simp [go_sem]; done)))
    | (refine AWP.condF ?_ ?_; (focus (simp [go_sem]; done)))
    | (apply AWP.rE; (focus (simp [go_sem]; exact ⟨rfl, rfl⟩)); try dsimp only [thn, inBlk])
    | fail)
  have k2 : Own O _ (ob 5 (.slice (some ⟨h1.next, 0, none⟩) 4 4) [1, 0, 2, 97] :: rdr i [] 0 :: R) := (k1.push (.row [.int .u8 1, .int .u8 0, .int .u8 2, .int .u8 97] 5 1 true false)).row_any (n := 4) rfl
  have bl := k1.ble
  refine AWP.callE (by simp [go_sem, convS, strR, bl]; exact ⟨rfl, rfl, rfl, rfl, rfl⟩) (by kernel_rfl) ?_
  refine (feed_calls (xs := [1, 0, 2, 97]) k2.b1 (fun hh kk => kk.ob_bytes) (fun e => absurd rfl e) (by simp)).mono ?_
  rintro v h2 ⟨a, cap, rfl, k3⟩
  rw [feed_1] at k3 ⊢
  refine awpL_restE (by simp [go_sem]; exact ⟨rfl, rfl⟩) ?_; try dsimp only [thn, inBlk]
  (repeat' first
    | refine AWP.seq ?_
    | refine AWP.block ?_
    | (refine AWP.skip ?_; try dsimp only [thn, inBlk])
    | (refine AWP.exit ?_; try simp only [thn, inBlk, if_true])
    | (refine AWP.ret ?_; try dsimp only [thn, inBlk])
    | (refine AWP.condT ?_ ?_; (focus (simp [go_sem]; done)))
    | (refine AWP.condF ?_ ?_; (focus (simp [go_sem]; done)))
    | (apply AWP.rE; (focus (simp [go_sem]; exact ⟨rfl, rfl⟩)); try dsimp only [thn, inBlk])
    | fail)
  have k4 : Own O _ (ob 5 (.slice (some ⟨h2.next, 0, none⟩) 2 2) [98, 0] :: rdr i [1, 0, 2, 97] 0 :: R) := (k3.d2.d1.push (.row [.int .u8 98, .int .u8 0] 5 1 true false)).row_any (n := 2) rfl
  have bl2 := k3.ble
  refine AWP.callE (by simp [go_sem, convS, strR, bl2]; exact ⟨rfl, rfl, rfl, rfl, rfl⟩) (by kernel_rfl) ?_
  refine (feed_calls (xs := [98, 0]) k4.b1 (fun hh kk => kk.ob_bytes) (fun e => absurd rfl e) (by simp)).mono ?_
  rintro v h3 ⟨a2, cap2, rfl, k5⟩
  rw [feed_2] at k5 ⊢
  obtain ⟨i0, o0, c0, e0, z0, ti0, ro0, a0, n0, p0, q0, g0, g0', l0, f0, b0⟩ := fr_at k5.b1.brecs_read (j := 0) (by simp) (kd := .i64)
  have p0 : indexAddrP Try.prog 27 (.slice a2 1 cap2) (.int .i64 0) = some (.pointer (some ⟨i0, o0, none⟩)) := p0
  have g0 : c0[o0]? = some (.int .i64 1) := g0
  have g0' : c0[o0 + 1]? = some (.slice a0 2 n0) := g0'
  have s0 := b0.str (P := Try.prog) (t := 26) (e := 5) (u := 9) Try.underlying26 Try.underlying5 Try.underlying9
  have s0 : strR Try.prog h3 26 9 (.slice a0 2 n0) = some (.string ⟨#[97, 98]⟩) := s0
  refine awpL_restE (by simp [go_sem]; exact ⟨rfl, rfl⟩) ?_; try dsimp only [thn, inBlk]
  (repeat' first
    | refine AWP.seq ?_
    | refine AWP.block ?_
    | (refine AWP.skip ?_; try dsimp only [thn, inBlk])
    | (refine AWP.exit ?_; try simp only [thn, inBlk, if_true])
    | (refine AWP.ret ?_; try dsimp only [thn, inBlk])
    | (refine AWP.condT ?_ ?_; (focus (simp [go_sem]; done)))
    | (refine AWP.condF ?_ ?_; (focus (simp [go_sem]; done)))
    | (apply AWP.rE; (focus (simp [go_sem]; exact ⟨rfl, rfl⟩)); try dsimp only [thn, inBlk])
    | fail)
  refine AWP.callE (by simp [go_sem, p0, q0, g0, g0', s0]; exact ⟨rfl, rfl, rfl, rfl, rfl⟩) (by kernel_rfl) ?_
  refine (rest_calls k5).mono ?_
  rintro v h4 ⟨rfl, rfl⟩
  refine awpL_restE (by simp [go_sem]; exact ⟨rfl, rfl⟩) ?_; try dsimp only [thn, inBlk]
  (repeat' first
    | refine AWP.seq ?_
    | refine AWP.block ?_
    | (refine AWP.skip ?_; try dsimp only [thn, inBlk])
    | (refine AWP.exit ?_; try simp only [thn, inBlk, if_true])
    | (refine AWP.ret ?_; try dsimp only [thn, inBlk])
    | (refine AWP.condT ?_ ?_; (focus (simp [go_sem]; done)))
    | (refine AWP.condF ?_ ?_; (focus (simp [go_sem]; done)))
    | (apply AWP.rE; (focus (simp [go_sem]; exact ⟨rfl, rfl⟩)); try dsimp only [thn, inBlk])
    | fail)
  simp [bodyQ, thn, inBlk, resA, resV, go_sem]
  exact k5.tail.tail.tail
end L17
