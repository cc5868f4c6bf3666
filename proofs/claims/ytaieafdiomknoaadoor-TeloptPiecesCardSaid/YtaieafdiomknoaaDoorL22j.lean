import Derived.Test.YtaieafdiomknoaaDoorL22i
open Go Ab Go.Proofs
namespace L22
set_option autoImplicit false
set_option linter.unusedSimpArgs false
set_option linter.unusedVariables false

theorem right_1 : right 1 0 0 2 = 0 := rfl
set_option maxHeartbeats 2000000 in
theorem speaks_calls {O : Old} {h : AHeap} {R : List Chunk} (k : Own O h R) : ACalls Tryd.prog 8 #[] h fun v h' => v = .bool true ∧ Own O h' R := by
  refine ACalls.of_awp (args := []) (n := 73) Tryd.func8 rfl rfl (by show 0 ≤ 73; omega) ?_
  (repeat' first
    | refine AWP.seq ?_
    | refine AWP.block ?_
    | (refine AWP.skip ?_; try dsimp only [thn, inBlk])
    | (refine AWP.exit ?_; try simp only [thn, inBlk, if_true, reduceIte, Nat.reduceEqDiff])
    | (refine AWP.ret ?_; try dsimp only [thn, inBlk])
    | (refine AWP.condT ?_ ?_; (focus (simp [go_sem]; done)))
    | (refine AWP.condF ?_ ?_; (focus (simp [go_sem]; done)))
    | (apply AWP.rE; (focus (simp [go_sem]; exact ⟨rfl, rfl⟩)); try dsimp only [thn, inBlk])
    | fail)
  have k1 : Own O _ (ob 5 (.slice (some ⟨h.next, 0, none⟩) 2 2) [97, 255] :: R) := (k.push (.row [.int .u8 97, .int .u8 255] 5 1 true false)).row_any (n := 2) rfl
  have bl := k.ble
  refine AWP.callE (by simp [go_sem, convS, strR, bl]; exact ⟨rfl, rfl, rfl, rfl, rfl⟩) (by kernel_rfl) ?_
  refine (write_calls (kd := 1) (v := 0) (o := 0) (bs := [97, 255]) k1 (fun hh kk => kk.ob_bytes) (by simp)).mono ?_
  rintro v h1 ⟨a, cap, rfl, k2⟩
  rw [wr_1] at k2 ⊢
  refine awpL_restE (by simp [go_sem]; exact ⟨rfl, rfl⟩) ?_; try dsimp only [thn, inBlk]
  (repeat' first
    | refine AWP.seq ?_
    | refine AWP.block ?_
    | (refine AWP.skip ?_; try dsimp only [thn, inBlk])
    | (refine AWP.exit ?_; try simp only [thn, inBlk, if_true, reduceIte, Nat.reduceEqDiff])
    | (refine AWP.ret ?_; try dsimp only [thn, inBlk])
    | (refine AWP.condT ?_ ?_; (focus (simp [go_sem]; done)))
    | (refine AWP.condF ?_ ?_; (focus (simp [go_sem]; done)))
    | (apply AWP.rE; (focus (simp [go_sem]; exact ⟨rfl, rfl⟩)); try dsimp only [thn, inBlk])
    | fail)
  refine AWP.callE (by simp [go_sem]; exact ⟨rfl, rfl, rfl, rfl, rfl⟩) (by kernel_rfl) ?_
  refine (new_calls k2.d1).mono ?_
  rintro v h2 ⟨i, rfl, k3⟩
  refine awpL_restE (by simp [go_sem]; exact ⟨rfl, rfl⟩) ?_; try dsimp only [thn, inBlk]
  (repeat' first
    | refine AWP.seq ?_
    | refine AWP.block ?_
    | (refine AWP.skip ?_; try dsimp only [thn, inBlk])
    | (refine AWP.exit ?_; try simp only [thn, inBlk, if_true, reduceIte, Nat.reduceEqDiff])
    | (refine AWP.ret ?_; try dsimp only [thn, inBlk])
    | (refine AWP.condT ?_ ?_; (focus (simp [go_sem]; done)))
    | (refine AWP.condF ?_ ?_; (focus (simp [go_sem]; done)))
    | (apply AWP.rE; (focus (simp [go_sem]; exact ⟨rfl, rfl⟩)); try dsimp only [thn, inBlk])
    | fail)
  have k4 : Own O _ (ob 5 (.slice (some ⟨h2.next, 0, none⟩) 2 2) [97, 255] :: rdr i rd0 :: _) := (k3.push (.row [.int .u8 97, .int .u8 255] 5 1 true false)).row_any (n := 2) rfl
  have bl2 := k3.ble
  refine AWP.callE (by simp [go_sem, convS, strR, bl2]; exact ⟨rfl, rfl, rfl, rfl, rfl⟩) (by kernel_rfl) ?_
  refine (feed_calls (bs := [97, 255]) (to_rdz k4.b1) (fun hh kk => kk.ob_bytes) (by simp) (by simp [rd0])).mono ?_
  rintro v h3 ⟨a3, c3, rfl, k5⟩
  rw [feed_1] at k5 ⊢
  refine awpL_restE (by simp [go_sem]; exact ⟨rfl, rfl⟩) ?_; try dsimp only [thn, inBlk]
  (repeat' first
    | refine AWP.seq ?_
    | refine AWP.block ?_
    | (refine AWP.skip ?_; try dsimp only [thn, inBlk])
    | (refine AWP.exit ?_; try simp only [thn, inBlk, if_true, reduceIte, Nat.reduceEqDiff])
    | (refine AWP.ret ?_; try dsimp only [thn, inBlk])
    | (refine AWP.condT ?_ ?_; (focus (simp [go_sem]; done)))
    | (refine AWP.condF ?_ ?_; (focus (simp [go_sem]; done)))
    | (apply AWP.rE; (focus (simp [go_sem]; exact ⟨rfl, rfl⟩)); try dsimp only [thn, inBlk])
    | fail)
  have k6 : Own O _ (ob 5 (.slice (some ⟨h3.next, 0, none⟩) 2 2) [255, 98] :: _) := (k5.push (.row [.int .u8 255, .int .u8 98] 5 1 true false)).row_any (n := 2) rfl
  have bl3 := k5.ble
  refine AWP.callE (by simp [go_sem, convS, strR, bl3]; exact ⟨rfl, rfl, rfl, rfl, rfl⟩) (by kernel_rfl) ?_
  refine (feed_calls (bs := [255, 98]) k6.b2 (fun hh kk => kk.ob_bytes) (by simp) (by simp)).mono ?_
  rintro v h4 ⟨a4, c4, rfl, k7⟩
  rw [feed_2] at k7 ⊢
  obtain ⟨i0, o0, c0, e0, z0, ti0, ro0, a0, n0, p0, q0, _, _, _, g0, l0, f0, b0⟩ := tl_at k7.brecs_read (j := 0) (by simp) (kd := .i64)
  have p0 : indexAddrP Tryd.prog 33 (.slice a4 1 c4) (.int .i64 0) = some (.pointer (some ⟨i0, o0, none⟩)) := p0
  have g0 : c0[o0 + 3]? = some (.slice a0 2 n0) := g0
  have s0 := b0.str (P := Tryd.prog) (t := 22) (e := 5) (u := 9) Tryd.underlying22 Tryd.underlying5 Tryd.underlying9
  have s0 : strR Tryd.prog h4 22 9 (.slice a0 2 n0) = some (.string ⟨#[255, 98]⟩) := s0
  obtain ⟨i1, o1, c1, e1, z1, ti1, ro1, a1, n1, p1, q1, _, _, _, g1, l1, f1, b1⟩ := tl_at k7.b3.brecs_read (j := 0) (by simp) (kd := .i64)
  have p1 : indexAddrP Tryd.prog 33 (.slice a3 1 c3) (.int .i64 0) = some (.pointer (some ⟨i1, o1, none⟩)) := p1
  have g1 : c1[o1 + 3]? = some (.slice a1 1 n1) := g1
  have s1 := b1.str (P := Tryd.prog) (t := 22) (e := 5) (u := 9) Tryd.underlying22 Tryd.underlying5 Tryd.underlying9
  have s1 : strR Tryd.prog h4 22 9 (.slice a1 1 n1) = some (.string ⟨#[97]⟩) := s1
  have s2 := k7.b5.ob_bytes.str (P := Tryd.prog) (t := 22) (e := 5) (u := 9) Tryd.underlying22 Tryd.underlying5 Tryd.underlying9
  have s2 : strR Tryd.prog h4 22 9 (.slice a 3 cap) = some (.string ⟨#[97, 255, 255]⟩) := s2
  refine awpL_restE (by simp [go_sem]; exact ⟨rfl, rfl⟩) ?_; try dsimp only [thn, inBlk]
  (repeat' first
    | refine AWP.seq ?_
    | refine AWP.block ?_
    | (refine AWP.skip ?_; try dsimp only [thn, inBlk])
    | (refine AWP.exit ?_; try simp only [thn, inBlk, if_true, reduceIte, Nat.reduceEqDiff])
    | (refine AWP.ret ?_; try dsimp only [thn, inBlk])
    | (refine AWP.condT ?_ ?_; (focus (simp [go_sem, p0, q0, g0, s0, p1, q1, g1, s1, s2, right_1]; done)))
    | (refine AWP.condF ?_ ?_; (focus (simp [go_sem, p0, q0, g0, s0, p1, q1, g1, s1, s2, right_1]; done)))
    | (apply AWP.rE; (focus (simp [go_sem, p0, q0, g0, s0, p1, q1, g1, s1, s2, right_1]; exact ⟨rfl, rfl⟩)); try dsimp only [thn, inBlk])
    | fail)
  simp [bodyQ, thn, inBlk, resA, resV, go_sem]
  exact k7.tail.tail.tail.tail.tail.tail
end L22
