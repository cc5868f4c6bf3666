import Derived.Test.YtjlcednpohgamaaL17i
open Go Ab Go.Proofs
namespace L17
set_option autoImplicit false
set_option linter.unusedSimpArgs false
set_option linter.unusedVariables false

theorem feed_bad (xs : List UInt8) : feedR [] 0 (5 :: xs) = ([], [], 100) := by
  have h : nxt (5 :: xs) 0 = (none, 5 :: xs, 100) := by simp [nxt]
  simp [feedR, parse_none h]
theorem feed_stay (xs : List UInt8) : feedR [] 100 xs = ([], [], 100) := by simp [feedR]

set_option maxHeartbeats 8000000 in
theorem stops_calls {h : AHeap} {v0 v1 v2 : Value} {fs : List Fr} {xs : List UInt8} {ps : List (List UInt8)} (hb : h.base = h.next) (h0 : BR pre 2 h v0 fs) (h1 : Bytes h v1 xs) (h2 : Pcs h v2 ps) (hl : ps.length ≤ 9223372036854775807) :
    ACalls Try.prog 6 #[v0, v1, v2] h fun r _ => r = .bool true := by
  refine Own.of_wf fun k0 => ?_
  obtain ⟨fa, fc, rfl⟩ := h0.val
  obtain ⟨xa, xc, rfl⟩ := h1.val
  obtain ⟨pa, pc, rfl⟩ := h2.val
  refine ACalls.of_awp (args := [.slice fa fs.length fc, .slice xa xs.length xc, .slice pa ps.length pc]) (n := 113) Try.func6 rfl rfl (by show 3 ≤ 113; omega) ?_
  (repeat' first
    | refine AWP.seq ?_
    | refine AWP.block ?_
    | (refine AWP.skip ?_; try dsimp only [thn, inBlk])
    | (refine AWP.exit ?_; try simp only [thn, inBlk, if_true])
    | (refine AWP.ret ?_; try dsimp only [thn, inBlk])
    | (refine AWP.condT ?_ ?_; (focus (simp [go_sem]; done)))
    | (refine AWP.condF ?_ ?_; (focus (simp [go_sem]; done)))
    | (apply AWP.rE; (focus (simp [go_sem]; exact ⟨rfl, rfl⟩)); try dsimp only [thn, inBlk])
    | fail)
  refine AWP.callE (by simp [go_sem]; exact ⟨rfl, rfl, rfl, rfl, rfl⟩) (by kernel_rfl) ?_
  refine (speaks_calls k0).mono ?_
  rintro r h1' ⟨rfl, k1⟩
  refine awpL_restE (by simp [go_sem]; exact ⟨rfl, rfl⟩) ?_; try dsimp only [thn, inBlk]
  by_cases hf : 10 < fs.length
  · have hf' : (10 : Int) < fs.length := by omega
    (repeat' first
      | refine AWP.seq ?_
      | refine AWP.block ?_
      | (refine AWP.skip ?_; try dsimp only [thn, inBlk])
      | (refine AWP.exit ?_; try simp only [thn, inBlk, if_true])
      | (refine AWP.ret ?_; try dsimp only [thn, inBlk])
      | (refine AWP.condT ?_ ?_; (focus (simp [go_sem, hf']; done)))
      | (refine AWP.condF ?_ ?_; (focus (simp [go_sem, hf']; done)))
      | (apply AWP.rE; (focus (simp [go_sem, hf']; exact ⟨rfl, rfl⟩)); try dsimp only [thn, inBlk])
      | fail)
    simp [bodyQ, thn, inBlk, resA, resV, go_sem]
  have hf' : ¬ (10 : Int) < fs.length := by omega
  by_cases hp : 10 < ps.length
  · have hp' : (10 : Int) < ps.length := by omega
    (repeat' first
      | refine AWP.seq ?_
      | refine AWP.block ?_
      | (refine AWP.skip ?_; try dsimp only [thn, inBlk])
      | (refine AWP.exit ?_; try simp only [thn, inBlk, if_true])
      | (refine AWP.ret ?_; try dsimp only [thn, inBlk])
      | (refine AWP.condT ?_ ?_; (focus (simp [go_sem, hf', hp']; done)))
      | (refine AWP.condF ?_ ?_; (focus (simp [go_sem, hf', hp']; done)))
      | (apply AWP.rE; (focus (simp [go_sem, hf', hp']; exact ⟨rfl, rfl⟩)); try dsimp only [thn, inBlk])
      | fail)
    simp [bodyQ, thn, inBlk, resA, resV, go_sem]
  have hp' : ¬ (10 : Int) < ps.length := by omega
  by_cases hx : 100 < xs.length
  · have hx' : (100 : Int) < xs.length := by omega
    (repeat' first
      | refine AWP.seq ?_
      | refine AWP.block ?_
      | (refine AWP.skip ?_; try dsimp only [thn, inBlk])
      | (refine AWP.exit ?_; try simp only [thn, inBlk, if_true])
      | (refine AWP.ret ?_; try dsimp only [thn, inBlk])
      | (refine AWP.condT ?_ ?_; (focus (simp [go_sem, hf', hp', hx']; done)))
      | (refine AWP.condF ?_ ?_; (focus (simp [go_sem, hf', hp', hx']; done)))
      | (apply AWP.rE; (focus (simp [go_sem, hf', hp', hx']; exact ⟨rfl, rfl⟩)); try dsimp only [thn, inBlk])
      | fail)
    simp [bodyQ, thn, inBlk, resA, resV, go_sem]
  have hx' : ¬ (100 : Int) < xs.length := by omega
  (repeat' first
    | refine AWP.seq ?_
    | refine AWP.block ?_
    | (refine AWP.skip ?_; try dsimp only [thn, inBlk])
    | (refine AWP.exit ?_; try simp only [thn, inBlk, if_true])
    | (refine AWP.ret ?_; try dsimp only [thn, inBlk])
    | (refine AWP.condT ?_ ?_; (focus (simp [go_sem, hf', hp', hx']; done)))
    | (refine AWP.condF ?_ ?_; (focus (simp [go_sem, hf', hp', hx']; done)))
    | (apply AWP.rE; (focus (simp [go_sem, hf', hp', hx']; exact ⟨rfl, rfl⟩)); try dsimp only [thn, inBlk])
    | fail)
  refine AWP.callE (by simp [go_sem]; exact ⟨rfl, rfl, rfl, rfl, rfl⟩) (by kernel_rfl) ?_
  refine (new_calls k1).mono ?_
  rintro r h2' ⟨i, rfl, k2⟩
  refine awpL_restE (by simp [go_sem]; exact ⟨rfl, rfl⟩) ?_; try dsimp only [thn, inBlk]
  (repeat' first
    | refine AWP.seq ?_
    | refine AWP.block ?_
    | (refine AWP.skip ?_; try dsimp only [thn, inBlk])
    | (refine AWP.exit ?_; try simp only [thn, inBlk, if_true])
    | (refine AWP.ret ?_; try dsimp only [thn, inBlk])
    | (refine AWP.condT ?_ ?_; (focus (simp [go_sem]; done)))
    | (refine AWP.condF ?_ ?_; (focus (simp [go_sem]; done)))
    | (apply AWP.rE; (focus (simp [go_sem]; exact ⟨rfl, rfl⟩)); try dsimp only [thn, inBlk])
    | fail)
  refine AWP.loopR [0, 1, 2, 7, 8, 39, 40, 41] (fun m s h' => ∃ (j cnt : Nat), j ≤ fs.length ∧ cnt ≤ j ∧ m = fs.length - j ∧
    s = ⟨113, [(0, .slice fa fs.length fc), (1, .slice xa xs.length xc), (2, .slice pa ps.length pc), (7, ptr i), (8, .int .i64 cnt), (39, .slice fa fs.length fc), (40, .int .i64 fs.length), (41, .int .i64 j)]⟩ ∧
    Own h.asOld h' [rdr i [] 0]) ?_ ?_
  · exact ⟨_, 0, 0, by omega, by omega, rfl, by simp [go_sem], k2⟩
  rintro m s h' ⟨j, cnt, hj, hcnt, rfl, rfl, kt⟩
  by_cases hj2 : j < fs.length
  · have hj3 : (j : Int) < fs.length := by omega
    have wj : IntKind.i64.wrap ((j : Int) + 1) = ((j + 1 : Nat) : Int) := by rw [wI64 (by omega) (by omega)]; omega
    have wc : IntKind.i64.wrap ((cnt : Int) + 1) = ((cnt + 1 : Nat) : Int) := by rw [wI64 (by omega) (by omega)]; omega
    obtain ⟨i0, o0, c0, e0, z0, ti0, ro0, a0, n0, p0, q0, g0, g0', l0, f0, b0⟩ := fr_at h0 hj2 (kd := .i64)
    have hi0 : i0 < h.base := by
      rcases Nat.lt_or_ge i0 h.next with hlt | hge
      · omega
      · rw [k0.bnd i0 hge] at q0; cases q0
    have hq : ∀ {hh : AHeap} {L : List Chunk}, Own h.asOld hh L → hh.obj i0 = some (.row c0 e0 z0 ti0 ro0) := fun o => (o.old i0 hi0).trans q0
    have hbo : ∀ {hh : AHeap} {L : List Chunk}, Own h.asOld hh L → Bytes hh (.slice a0 (fs[j]).2.length n0) (fs[j]).2 := fun o => b0.of_old hb o
    have q1 := hq kt
    have q0' := hq (kt.push (.row [.int .i64 0, .slice none 0 0] 36 2 true false))
    generalize fs[j] = f at *
    obtain ⟨fc1, fb⟩ := f
    simp only at *
    have k3 := kt.push (.row [.int .i64 fc1, .slice a0 fb.length n0] 36 2 true false)
    have c3 := k3.obj
    by_cases h1000 : 1000 < fb.length
    · have h1000' : (1000 : Int) < fb.length := by omega
      (repeat' first
        | refine AWP.seq ?_
        | refine AWP.block ?_
        | (refine AWP.skip ?_; try dsimp only [thn, inBlk])
        | (refine AWP.exit ?_; try simp only [thn, inBlk, if_true])
        | (refine AWP.ret ?_; try dsimp only [thn, inBlk])
        | (refine AWP.condT ?_ ?_; (focus (simp [go_sem, hj3, p0, q1, q0', g0, g0', l0, f0, c3, h1000']; done)))
        | (refine AWP.condF ?_ ?_; (focus (simp [go_sem, hj3, p0, q1, q0', g0, g0', l0, f0, c3, h1000']; done)))
        | (apply AWP.rE; (focus (simp [go_sem, hj3, p0, q1, q0', g0, g0', l0, f0, c3, h1000']; exact ⟨rfl, rfl⟩)); try dsimp only [thn, inBlk])
        | fail)
      simp [bodyQ, thn, inBlk, resA, resV, go_sem]
    have h1000' : ¬ (1000 : Int) < fb.length := by omega
    (repeat' first
      | refine AWP.seq ?_
      | refine AWP.block ?_
      | (refine AWP.skip ?_; try dsimp only [thn, inBlk])
      | (refine AWP.exit ?_; try simp only [thn, inBlk, if_true])
      | (refine AWP.ret ?_; try dsimp only [thn, inBlk])
      | (refine AWP.condT ?_ ?_; (focus (simp [go_sem, hj3, p0, q1, q0', g0, g0', l0, f0, c3, h1000']; done)))
      | (refine AWP.condF ?_ ?_; (focus (simp [go_sem, hj3, p0, q1, q0', g0, g0', l0, f0, c3, h1000']; done)))
      | (apply AWP.rE; (focus (simp [go_sem, hj3, p0, q1, q0', g0, g0', l0, f0, c3, h1000']; exact ⟨rfl, rfl⟩)); try dsimp only [thn, inBlk])
      | fail)
    refine AWP.callE (by simp [go_sem, c3]; exact ⟨rfl, rfl, rfl, rfl, rfl⟩) (by kernel_rfl) ?_
    refine (write_calls (f := (fc1, fb)) k3 (fun hh kk => hbo kk) (by simp only; omega)).mono ?_
    rintro v h4 ⟨a4, cap4, rfl, k4⟩
    have wl := wr_len (fc1, fb)
    have pw := parse_wr (f := (fc1, fb))
    generalize hwr : wr (fc1, fb) = w at *
    obtain ⟨ws, we⟩ := w
    simp only at *
    by_cases hw0 : we = 0
    rotate_left
    · have hw1 : (we != 0) = true := by simpa using hw0
      refine awpL_restE (by simp [go_sem]; exact ⟨rfl, rfl⟩) ?_; try dsimp only [thn, inBlk]
      (repeat' first
        | refine AWP.seq ?_
        | refine AWP.block ?_
        | (refine AWP.skip ?_; try dsimp only [thn, inBlk])
        | (refine AWP.exit ?_; try simp only [thn, inBlk, if_true])
        | (refine AWP.ret ?_; try dsimp only [thn, inBlk])
        | (refine AWP.condT ?_ ?_; (focus (simp [go_sem, hw1, wj]; done)))
        | (refine AWP.condF ?_ ?_; (focus (simp [go_sem, hw1, wj]; done)))
        | (apply AWP.rE; (focus (simp [go_sem, hw1, wj]; exact ⟨rfl, rfl⟩)); try dsimp only [thn, inBlk])
        | fail)
      exact ⟨fs.length - (j + 1), by omega, j + 1, cnt, by omega, by omega, rfl, by simp [go_sem], k4.tail.tail⟩
    subst hw0
    refine awpL_restE (by simp [go_sem]; exact ⟨rfl, rfl⟩) ?_; try dsimp only [thn, inBlk]
    (repeat' first
      | refine AWP.seq ?_
      | refine AWP.block ?_
      | (refine AWP.skip ?_; try dsimp only [thn, inBlk])
      | (refine AWP.exit ?_; try simp only [thn, inBlk, if_true])
      | (refine AWP.ret ?_; try dsimp only [thn, inBlk])
      | (refine AWP.condT ?_ ?_; (focus (simp [go_sem]; done)))
      | (refine AWP.condF ?_ ?_; (focus (simp [go_sem]; done)))
      | (apply AWP.rE; (focus (simp [go_sem]; exact ⟨rfl, rfl⟩)); try dsimp only [thn, inBlk])
      | fail)
    refine AWP.callE (by simp [go_sem]; exact ⟨rfl, rfl, rfl, rfl, rfl⟩) (by kernel_rfl) ?_
    refine (feed_calls (xs := ws) k4.b2 (fun hh kk => kk.ob_bytes) (fun e => absurd rfl e) (by simp only [List.length_nil]; omega)).mono ?_
    rintro v h5 ⟨a5, cap5, rfl, k5⟩
    rw [feed_wr (pw rfl)] at k5 ⊢
    refine awpL_restE (by simp [go_sem]; exact ⟨rfl, rfl⟩) ?_; try dsimp only [thn, inBlk]
    (repeat' first
      | refine AWP.seq ?_
      | refine AWP.block ?_
      | (refine AWP.skip ?_; try dsimp only [thn, inBlk])
      | (refine AWP.exit ?_; try simp only [thn, inBlk, if_true])
      | (refine AWP.ret ?_; try dsimp only [thn, inBlk])
      | (refine AWP.condT ?_ ?_; (focus (simp [go_sem, wc, wj]; done)))
      | (refine AWP.condF ?_ ?_; (focus (simp [go_sem, wc, wj]; done)))
      | (apply AWP.rE; (focus (simp [go_sem, wc, wj]; exact ⟨rfl, rfl⟩)); try dsimp only [thn, inBlk])
      | fail)
    exact ⟨fs.length - (j + 1), by omega, j + 1, cnt + 1, by omega, by omega, rfl, by simp [go_sem], k5.d3.d2.d1⟩
  have hj3 : ¬ (j : Int) < fs.length := by omega
  obtain rfl : j = fs.length := by omega
  have k6 : Own _ _ (ob 5 (.slice (some ⟨h'.next, 0, none⟩) 1 1) [5] :: [rdr i [] 0]) := (kt.push (.row [.int .u8 5] 5 1 true false)).row_any (n := 1) rfl
  obtain ⟨a7, c7, h7, e7, k7⟩ := k6.appB (P := Try.prog) (t := 26) (xt := 26) Try.underlying26 tsz5 tby5 tz5 nI26 (h1.of_old hb k6).src (by simp; omega)
  simp only [List.length_cons, List.length_nil, Nat.zero_add] at e7 k7
  (repeat' first
    | refine AWP.seq ?_
    | refine AWP.block ?_
    | (refine AWP.skip ?_; try dsimp only [thn, inBlk])
    | (refine AWP.exit ?_; try simp only [thn, inBlk, if_true])
    | (refine AWP.ret ?_; try dsimp only [thn, inBlk])
    | (refine AWP.condT ?_ ?_; (focus (simp [go_sem, hj3]; done)))
    | (refine AWP.condF ?_ ?_; (focus (simp [go_sem, hj3]; done)))
    | (apply AWP.rE; (focus (simp [go_sem, hj3]; exact ⟨rfl, rfl⟩)); try dsimp only [thn, inBlk])
    | fail)
  refine AWP.callE (by simp [go_sem, e7]; exact ⟨rfl, rfl, rfl, rfl, rfl⟩) (by kernel_rfl) ?_
  refine (feed_calls (xs := 5 :: xs) k7.b1 (fun hh kk => kk.ob_bytes) (fun e => absurd rfl e) (by simp; omega)).mono ?_
  rintro v h8 ⟨a8, c8, rfl, k8⟩
  rw [feed_bad] at k8 ⊢
  refine awpL_restE (by simp [go_sem]; exact ⟨rfl, rfl⟩) ?_; try dsimp only [thn, inBlk]
  (repeat' first
    | refine AWP.seq ?_
    | refine AWP.block ?_
    | (refine AWP.skip ?_; try dsimp only [thn, inBlk])
    | (refine AWP.exit ?_; try simp only [thn, inBlk, if_true])
    | (refine AWP.ret ?_; try dsimp only [thn, inBlk])
    | (refine AWP.condT ?_ ?_; (focus (simp [go_sem]; done)))
    | (refine AWP.condF ?_ ?_; (focus (simp [go_sem]; done)))
    | (apply AWP.rE; (focus (simp [go_sem]; exact ⟨rfl, rfl⟩)); try dsimp only [thn, inBlk])
    | fail)
  refine AWP.loopR [0, 7, 8, 16, 80, 81, 82] (fun m s h' => ∃ (j : Nat), j ≤ ps.length ∧ m = ps.length - j ∧
    s = ⟨113, [(0, .slice fa fs.length fc), (7, ptr i), (8, .int .i64 cnt), (16, .int .i64 100), (80, .slice pa ps.length pc), (81, .int .i64 ps.length), (82, .int .i64 j)]⟩ ∧
    Own h.asOld h' [rdr i [] 100]) ?_ ?_
  · exact ⟨_, 0, by omega, rfl, by simp [go_sem], k8.d2.d1⟩
  rintro m s h' ⟨j, hj, rfl, rfl, kt⟩
  have hle : (cnt : Int) ≤ fs.length := by omega
  by_cases hj2 : j < ps.length
  rotate_left
  · have hj4 : ¬ (j : Int) < ps.length := by omega
    (repeat' first
      | refine AWP.seq ?_
      | refine AWP.block ?_
      | (refine AWP.skip ?_; try dsimp only [thn, inBlk])
      | (refine AWP.exit ?_; try simp only [thn, inBlk, if_true])
      | (refine AWP.ret ?_; try dsimp only [thn, inBlk])
      | (refine AWP.condT ?_ ?_; (focus (simp [go_sem, hj4, hle]; done)))
      | (refine AWP.condF ?_ ?_; (focus (simp [go_sem, hj4, hle]; done)))
      | (apply AWP.rE; (focus (simp [go_sem, hj4, hle]; exact ⟨rfl, rfl⟩)); try dsimp only [thn, inBlk])
      | fail)
    simp [bodyQ, thn, inBlk, resA, resV, go_sem]
  have hj4 : (j : Int) < ps.length := by omega
  have wj : IntKind.i64.wrap ((j : Int) + 1) = ((j + 1 : Nat) : Int) := by rw [wI64 (by omega) (by omega)]; omega
  obtain ⟨cs, sl, hcs⟩ := h2
  obtain ⟨qa, qc, ee, bb⟩ := hcs j hj2
  obtain ⟨bi, bo, c, e', sz, ti, ro, q1, q2, q3⟩ := (sl.of_old hb kt).at1 (P := Try.prog) (t := 22) Try.underlying22 tsz26 hj2 ee (kd := .i64)
  have hx2 : ∀ {hh : AHeap} {L : List Chunk}, Own h.asOld hh L → Bytes hh (.slice qa ps[j].length qc) ps[j] := fun o => bb.of_old hb o
  generalize ps[j] = p at *
  (repeat' first
    | refine AWP.seq ?_
    | refine AWP.block ?_
    | (refine AWP.skip ?_; try dsimp only [thn, inBlk])
    | (refine AWP.exit ?_; try simp only [thn, inBlk, if_true])
    | (refine AWP.ret ?_; try dsimp only [thn, inBlk])
    | (refine AWP.condT ?_ ?_; (focus (simp [go_sem, hj4, q1, q2, q3]; done)))
    | (refine AWP.condF ?_ ?_; (focus (simp [go_sem, hj4, q1, q2, q3]; done)))
    | (apply AWP.rE; (focus (simp [go_sem, hj4, q1, q2, q3]; exact ⟨rfl, rfl⟩)); try dsimp only [thn, inBlk])
    | fail)
  refine AWP.callE (by simp [go_sem]; exact ⟨rfl, rfl, rfl, rfl, rfl⟩) (by kernel_rfl) ?_
  refine (feed_calls' (xs := p) kt (fun hh kk => hx2 kk) (fun _ => rfl) (fun e => absurd e (by decide))).mono ?_
  rintro v h9 ⟨a9, c9, rfl, k9⟩
  rw [feed_stay] at k9 ⊢
  refine awpL_restE (by simp [go_sem]; exact ⟨rfl, rfl⟩) ?_; try dsimp only [thn, inBlk]
  (repeat' first
    | refine AWP.seq ?_
    | refine AWP.block ?_
    | (refine AWP.skip ?_; try dsimp only [thn, inBlk])
    | (refine AWP.exit ?_; try simp only [thn, inBlk, if_true])
    | (refine AWP.ret ?_; try dsimp only [thn, inBlk])
    | (refine AWP.condT ?_ ?_; (focus (simp [go_sem]; done)))
    | (refine AWP.condF ?_ ?_; (focus (simp [go_sem]; done)))
    | (apply AWP.rE; (focus (simp [go_sem]; exact ⟨rfl, rfl⟩)); try dsimp only [thn, inBlk])
    | fail)
  refine AWP.callE (by simp [go_sem]; exact ⟨rfl, rfl, rfl, rfl, rfl⟩) (by kernel_rfl) ?_
  refine (rest_calls k9).mono ?_
  rintro v h10 ⟨rfl, rfl⟩
  refine awpL_restE (by simp [go_sem]; exact ⟨rfl, rfl⟩) ?_; try dsimp only [thn, inBlk]
  (repeat' first
    | refine AWP.seq ?_
    | refine AWP.block ?_
    | (refine AWP.skip ?_; try dsimp only [thn, inBlk])
    | (refine AWP.exit ?_; try simp only [thn, inBlk, if_true])
    | (refine AWP.ret ?_; try dsimp only [thn, inBlk])
    | (refine AWP.condT ?_ ?_; (focus (simp [go_sem, wj]; done)))
    | (refine AWP.condF ?_ ?_; (focus (simp [go_sem, wj]; done)))
    | (apply AWP.rE; (focus (simp [go_sem, wj]; exact ⟨rfl, rfl⟩)); try dsimp only [thn, inBlk])
    | fail)
  exact ⟨ps.length - (j + 1), by omega, j + 1, by omega, rfl, by simp [go_sem], k9.d1⟩
end L17
