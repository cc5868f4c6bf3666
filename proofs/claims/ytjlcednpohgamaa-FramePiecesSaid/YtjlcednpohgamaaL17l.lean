import Derived.Test.YtjlcednpohgamaaL17k
open Go Ab Go.Proofs
namespace L17
set_option autoImplicit false
set_option linter.unusedSimpArgs false
set_option linter.unusedVariables false

set_option maxHeartbeats 8000000 in
theorem pieces_calls {h : AHeap} {v0 v1 : Value} {fs : List Fr} {zs : List Int} (hb : h.base = h.next) (h0 : BR pre 2 h v0 fs) (h1 : Sl 1 h v1 zs.length (zs.map (.int .i64))) (hl : zs.length ≤ 9223372036854775807) :
    ACalls Try.prog 5 #[v0, v1] h fun r _ => r = .bool true := by
  refine Own.of_wf fun k0 => ?_
  obtain ⟨fa, fc, rfl⟩ := h0.val
  obtain ⟨za, zc, rfl⟩ := h1.val
  refine ACalls.of_awp (args := [.slice fa fs.length fc, .slice za zs.length zc]) (n := 102) Try.func5 rfl rfl (by show 2 ≤ 102; omega) ?_
  (repeat' first
    | refine AWP.seq ?_
    | refine AWP.block ?_
    | (refine AWP.skip ?_; try dsimp only [thn, inBlk])
    | (refine AWP.exit ?_; try simp only [thn, inBlk, if_true])
    | (refine AWP.ret ?_; try dsimp only [thn, inBlk])
    | (refine AWP.condT ?_ ?_; (focus (simp [go_sem]; done)))
    | (refine AWP.condF ?_ ?_; (focus (simp [go_sem]; done)))
    | (apply AWP.rE; (focus (simp [go_sem]; exact ⟨rfl, rfl⟩)); try dsimp only [thn, inBlk])
    | fail)
  refine AWP.callE (by simp [go_sem]; exact ⟨rfl, rfl, rfl, rfl, rfl⟩) (by kernel_rfl) ?_
  refine (speaks_calls k0).mono ?_
  rintro r h1' ⟨rfl, k1⟩
  refine awpL_restE (by simp [go_sem]; exact ⟨rfl, rfl⟩) ?_; try dsimp only [thn, inBlk]
  by_cases hf : 20 < fs.length
  · have hf' : (20 : Int) < fs.length := by omega
    (repeat' first
      | refine AWP.seq ?_
      | refine AWP.block ?_
      | (refine AWP.skip ?_; try dsimp only [thn, inBlk])
      | (refine AWP.exit ?_; try simp only [thn, inBlk, if_true])
      | (refine AWP.ret ?_; try dsimp only [thn, inBlk])
      | (refine AWP.condT ?_ ?_; (focus (simp [go_sem, hf']; done)))
      | (refine AWP.condF ?_ ?_; (focus (simp [go_sem, hf']; done)))
      | (apply AWP.rE; (focus (simp [go_sem, hf']; exact ⟨rfl, rfl⟩)); try dsimp only [thn, inBlk])
      | fail)
    simp [bodyQ, thn, inBlk, resA, resV, go_sem]
  have hf' : ¬ (20 : Int) < fs.length := by omega
  by_cases hp : 200 < zs.length
  · have hp' : (200 : Int) < zs.length := by omega
    (repeat' first
      | refine AWP.seq ?_
      | refine AWP.block ?_
      | (refine AWP.skip ?_; try dsimp only [thn, inBlk])
      | (refine AWP.exit ?_; try simp only [thn, inBlk, if_true])
      | (refine AWP.ret ?_; try dsimp only [thn, inBlk])
      | (refine AWP.condT ?_ ?_; (focus (simp [go_sem, hf', hp']; done)))
      | (refine AWP.condF ?_ ?_; (focus (simp [go_sem, hf', hp']; done)))
      | (apply AWP.rE; (focus (simp [go_sem, hf', hp']; exact ⟨rfl, rfl⟩)); try dsimp only [thn, inBlk])
      | fail)
    simp [bodyQ, thn, inBlk, resA, resV, go_sem]
  have hp' : ¬ (200 : Int) < zs.length := by omega
  (repeat' first
    | refine AWP.seq ?_
    | refine AWP.block ?_
    | (refine AWP.skip ?_; try dsimp only [thn, inBlk])
    | (refine AWP.exit ?_; try simp only [thn, inBlk, if_true])
    | (refine AWP.ret ?_; try dsimp only [thn, inBlk])
    | (refine AWP.condT ?_ ?_; (focus (simp [go_sem, hf', hp']; done)))
    | (refine AWP.condF ?_ ?_; (focus (simp [go_sem, hf', hp']; done)))
    | (apply AWP.rE; (focus (simp [go_sem, hf', hp']; exact ⟨rfl, rfl⟩)); try dsimp only [thn, inBlk])
    | fail)
  refine AWP.callE (by simp [go_sem]; exact ⟨rfl, rfl, rfl, rfl, rfl⟩) (by kernel_rfl) ?_
  refine (new_calls k1).mono ?_
  rintro r h2 ⟨i, rfl, k2⟩
  refine awpL_restE (by simp [go_sem]; exact ⟨rfl, rfl⟩) ?_; try dsimp only [thn, inBlk]
  (repeat' first
    | refine AWP.seq ?_
    | refine AWP.block ?_
    | (refine AWP.skip ?_; try dsimp only [thn, inBlk])
    | (refine AWP.exit ?_; try simp only [thn, inBlk, if_true])
    | (refine AWP.ret ?_; try dsimp only [thn, inBlk])
    | (refine AWP.condT ?_ ?_; (focus (simp [go_sem]; done)))
    | (refine AWP.condF ?_ ?_; (focus (simp [go_sem]; done)))
    | (apply AWP.rE; (focus (simp [go_sem]; exact ⟨rfl, rfl⟩)); try dsimp only [thn, inBlk])
    | fail)
  have kall : Own _ _ (ob 5 (.slice (some ⟨h2.next, 0, none⟩) 0 0) [] :: _) := (k2.push (.row [] 5 1 true false)).row_any (n := 0) rfl
  have krt := (kall.push (.row [] 36 2 true false)).os_mk (n := 0) (cap := 0) (off := 0) (cs := []) (Nat.le_refl _) (by simp) (by simp)
  have krt2 : Own _ _ (rt h (.slice (some ⟨h2.next + 1, 0, none⟩) 0 0) [] :: _) := rt_iff.2 ⟨[], ⟨rfl, fun j f p hf => by simp at hf⟩, krt⟩
  refine AWP.loopR [0, 1, 5, 6, 7, 32, 33, 34] (fun m s h' => ∃ (j : Nat) (rs : List Fr) (all : List UInt8) (aa ra : Option Addr) (ac rc : Nat), j ≤ fs.length ∧ rs.length ≤ j ∧ all.length ≤ 1100 * j ∧ m = fs.length - j ∧
    s = ⟨102, [(0, .slice fa fs.length fc), (1, .slice za zs.length zc), (5, ptr i), (6, .slice aa all.length ac), (7, .slice ra rs.length rc), (32, .slice fa fs.length fc), (33, .int .i64 fs.length), (34, .int .i64 j)]⟩ ∧
    parse all = (rs, [], 0) ∧ Own h.asOld h' [rt h (.slice ra rs.length rc) rs, ob 5 (.slice aa all.length ac) all, rdr i [] 0]) ?_ ?_
  · exact ⟨_, 0, [], [], _, _, 0, 0, by omega, by simp, by simp, rfl, by simp [go_sem], parse_nil, krt2⟩
  rintro m s h' ⟨j, rs, all, aa, ra, ac, rc, hj, hrs, hal, rfl, rfl, hpa, kt⟩
  by_cases hj2 : j < fs.length
  · have hj3 : (j : Int) < fs.length := by omega
    have wj : IntKind.i64.wrap ((j : Int) + 1) = ((j + 1 : Nat) : Int) := by rw [wI64 (by omega) (by omega)]; omega
    obtain ⟨i0, o0, c0, e0, z0, ti0, ro0, a0, n0, p0, q0, g0, g0', l0, f0, b0⟩ := fr_at h0 hj2 (kd := .i64)
    have hi0 : i0 < h.base := by
      rcases Nat.lt_or_ge i0 h.next with hlt | hge
      · omega
      · rw [k0.bnd i0 hge] at q0; cases q0
    have hq : ∀ {hh : AHeap} {L : List Chunk}, Own h.asOld hh L → hh.obj i0 = some (.row c0 e0 z0 ti0 ro0) := fun o => (o.old i0 hi0).trans q0
    have hbo : ∀ {hh : AHeap} {L : List Chunk}, Own h.asOld hh L → Bytes hh (.slice a0 (fs[j]).2.length n0) (fs[j]).2 := fun o => b0.of_old hb o
    have q1 := hq kt
    have q0' := hq (kt.push (.row [.int .i64 0, .slice none 0 0] 36 2 true false))
    generalize fs[j] = f at *
    obtain ⟨fc1, fb⟩ := f
    simp only at *
    have k3 := kt.push (.row [.int .i64 fc1, .slice a0 fb.length n0] 36 2 true false)
    have c3 := k3.obj
    by_cases h1000 : 1000 < fb.length
    · have h1000' : (1000 : Int) < fb.length := by omega
      (repeat' first
        | refine AWP.seq ?_
        | refine AWP.block ?_
        | (refine AWP.skip ?_; try dsimp only [thn, inBlk])
        | (refine AWP.exit ?_; try simp only [thn, inBlk, if_true])
        | (refine AWP.ret ?_; try dsimp only [thn, inBlk])
        | (refine AWP.condT ?_ ?_; (focus (simp [go_sem, hj3, p0, q1, q0', g0, g0', l0, f0, c3, h1000']; done)))
        | (refine AWP.condF ?_ ?_; (focus (simp [go_sem, hj3, p0, q1, q0', g0, g0', l0, f0, c3, h1000']; done)))
        | (apply AWP.rE; (focus (simp [go_sem, hj3, p0, q1, q0', g0, g0', l0, f0, c3, h1000']; exact ⟨rfl, rfl⟩)); try dsimp only [thn, inBlk])
        | fail)
      simp [bodyQ, thn, inBlk, resA, resV, go_sem]
    have h1000' : ¬ (1000 : Int) < fb.length := by omega
    (repeat' first
      | refine AWP.seq ?_
      | refine AWP.block ?_
      | (refine AWP.skip ?_; try dsimp only [thn, inBlk])
      | (refine AWP.exit ?_; try simp only [thn, inBlk, if_true])
      | (refine AWP.ret ?_; try dsimp only [thn, inBlk])
      | (refine AWP.condT ?_ ?_; (focus (simp [go_sem, hj3, p0, q1, q0', g0, g0', l0, f0, c3, h1000']; done)))
      | (refine AWP.condF ?_ ?_; (focus (simp [go_sem, hj3, p0, q1, q0', g0, g0', l0, f0, c3, h1000']; done)))
      | (apply AWP.rE; (focus (simp [go_sem, hj3, p0, q1, q0', g0, g0', l0, f0, c3, h1000']; exact ⟨rfl, rfl⟩)); try dsimp only [thn, inBlk])
      | fail)
    refine AWP.callE (by simp [go_sem, c3]; exact ⟨rfl, rfl, rfl, rfl, rfl⟩) (by kernel_rfl) ?_
    refine (write_calls (f := (fc1, fb)) k3 (fun hh kk => hbo kk) (by simp only; omega)).mono ?_
    rintro v h4 ⟨a4, cap4, rfl, k4⟩
    have wl := wr_len (fc1, fb)
    have pw := parse_wr (f := (fc1, fb))
    generalize hwr : wr (fc1, fb) = w at *
    obtain ⟨ws, we⟩ := w
    simp only at *
    by_cases hw0 : we = 0
    rotate_left
    · have hw1 : (we == 0) = false := by simpa using hw0
      refine awpL_restE (by simp [go_sem]; exact ⟨rfl, rfl⟩) ?_; try dsimp only [thn, inBlk]
      (repeat' first
        | refine AWP.seq ?_
        | refine AWP.block ?_
        | (refine AWP.skip ?_; try dsimp only [thn, inBlk])
        | (refine AWP.exit ?_; try simp only [thn, inBlk, if_true])
        | (refine AWP.ret ?_; try dsimp only [thn, inBlk])
        | (refine AWP.condT ?_ ?_; (focus (simp [go_sem, hw1, wj]; done)))
        | (refine AWP.condF ?_ ?_; (focus (simp [go_sem, hw1, wj]; done)))
        | (apply AWP.rE; (focus (simp [go_sem, hw1, wj]; exact ⟨rfl, rfl⟩)); try dsimp only [thn, inBlk])
        | fail)
      have hal2 : all.length ≤ 1100 * (j + 1) := by omega
      exact ⟨fs.length - (j + 1), by omega, j + 1, rs, all, aa, ra, ac, rc, by omega, by omega, hal2, rfl, by simp [go_sem], hpa, k4.tail.tail⟩
    subst hw0
    have k5 := k4.push (.row [.int .i64 fc1, .slice a0 fb.length n0] 36 2 true false)
    have k5b := k5.b4
    obtain ⟨a6, c6, h6, e6, k6⟩ := k5b.appB (P := Try.prog) (t := 26) (xt := 26) Try.underlying26 tsz5 tby5 tz5 nI26 k5b.b2.ob_bytes.src (by omega)
    have c4 := k4.b1.obj
    have c6' := k6.b3.obj
    have c7 := k6.b1.obj
    obtain ⟨a8, c8, h8, e8, k8⟩ := rt_app (f := (fc1, fb)) k6.b4 b0 c7 (by omega)
    refine awpL_restE (by simp [go_sem]; exact ⟨rfl, rfl⟩) ?_; try dsimp only [thn, inBlk]
    (repeat' first
      | refine AWP.seq ?_
      | refine AWP.block ?_
      | (refine AWP.skip ?_; try dsimp only [thn, inBlk])
      | (refine AWP.exit ?_; try simp only [thn, inBlk, if_true])
      | (refine AWP.ret ?_; try dsimp only [thn, inBlk])
      | (refine AWP.condT ?_ ?_; (focus (simp [go_sem]; done)))
      | (refine AWP.condF ?_ ?_; (focus (simp [go_sem]; done)))
      | (apply AWP.rE; (focus (simp [go_sem]; exact ⟨rfl, rfl⟩)); try dsimp only [thn, inBlk])
      | fail)
    refine AWP.draw hmix [.n 0 [6], .n 1 [10], .n 3 [7], .n 4 [9], .n 5 [53], .w 2 [49, 50] [4, 5], .w 6 [52, 54] [], .n 7 [51], .n 8 [55]] (by kernel_rfl) ?_
    refine awpD_writeR 5 (by rfl) (by rfl) (by simp [go_sem, e6, c4, c6', c7]; exact ⟨rfl, rfl, rfl⟩) (by rfl) (by rfl) (by simp [go_sem]) (by simp [go_sem, e6, c4, c6', c7]; exact ⟨rfl, rfl⟩) (by simp [still, go_sem, e6, c4, c6', c7]) ?_
    refine awpD_writeR 0 (by rfl) (by rfl) (by simp [go_sem, e8]; exact ⟨rfl, rfl, rfl⟩) (by rfl) (by rfl) (by simp [go_sem]) (by simp [go_sem, e8]; exact ⟨rfl, rfl⟩) (by simp [still, go_sem, e8]) ?_
    refine awpD_restR (by rfl) (by simp [go_sem]; exact ⟨rfl, rfl, rfl⟩) ?_; try dsimp only [thn, inBlk]
    (repeat' first
      | refine AWP.seq ?_
      | refine AWP.block ?_
      | (refine AWP.skip ?_; try dsimp only [thn, inBlk])
      | (refine AWP.exit ?_; try simp only [thn, inBlk, if_true])
      | (refine AWP.ret ?_; try dsimp only [thn, inBlk])
      | (refine AWP.condT ?_ ?_; (focus (simp [go_sem, wj]; done)))
      | (refine AWP.condF ?_ ?_; (focus (simp [go_sem, wj]; done)))
      | (apply AWP.rE; (focus (simp [go_sem, wj]; exact ⟨rfl, rfl⟩)); try dsimp only [thn, inBlk])
      | fail)
    have hal2 : (all ++ ws).length ≤ 1100 * (j + 1) := by rw [List.length_append]; omega
    have hpa2 : parse (all ++ ws) = (rs ++ [(fc1, fb)], [], 0) := by
      rw [parse_append hpa]
      have := pw rfl []
      rw [List.append_nil] at this
      rw [List.nil_append, this, parse_nil]
    have hll : rs.length + 1 = (rs ++ [(fc1, fb)]).length := by simp
    have ll2 : all.length + ws.length = (all ++ ws).length := by simp
    exact ⟨fs.length - (j + 1), by omega, j + 1, rs ++ [(fc1, fb)], all ++ ws, a6, a8, c6, c8, by omega, by simp; omega, hal2, rfl, by simp [go_sem], hpa2, by rw [← ll2, ← hll]; exact k8.d4.d3.d2⟩
  have hj3 : ¬ (j : Int) < fs.length := by omega
  obtain rfl : j = fs.length := by omega
  (repeat' first
    | refine AWP.seq ?_
    | refine AWP.block ?_
    | (refine AWP.skip ?_; try dsimp only [thn, inBlk])
    | (refine AWP.exit ?_; try simp only [thn, inBlk, if_true])
    | (refine AWP.ret ?_; try dsimp only [thn, inBlk])
    | (refine AWP.condT ?_ ?_; (focus (simp [go_sem, hj3]; done)))
    | (refine AWP.condF ?_ ?_; (focus (simp [go_sem, hj3]; done)))
    | (apply AWP.rE; (focus (simp [go_sem, hj3]; exact ⟨rfl, rfl⟩)); try dsimp only [thn, inBlk])
    | fail)
  have kg : Own _ _ (frs (.slice (some ⟨h'.next, 0, none⟩) 0 0) [] :: _) := brecs_iff.2 ⟨[], rfl, (kt.push (.row [] 36 2 true false)).os_mk (n := 0) (cap := 0) (off := 0) (cs := []) (Nat.le_refl _) (by simp) (by simp)⟩
  refine AWP.loopR [1, 5, 6, 7, 12, 13] (fun m s h' => ∃ (n : Nat) (got : List Fr) (r al : List UInt8) (aa ga : Option Addr) (ac gc : Nat), n ≤ zs.length + 1 ∧ r.length + al.length ≤ all.length ∧ got.length + (parse (r ++ al)).1.length = rs.length ∧ m = (zs.length - n) + al.length ∧ (n = zs.length + 1 → al = []) ∧
    s = ⟨102, [(1, .slice za zs.length zc), (5, ptr i), (6, .slice aa al.length ac), (7, .slice ra rs.length rc), (12, .slice ga got.length gc), (13, .int .i64 n)]⟩ ∧
    rs = got ++ (parse (r ++ al)).1 ∧ (parse (r ++ al)).2 = ([], 0) ∧ (al = [] → r = []) ∧ Own h.asOld h' [rdr i r 0, frs (.slice ga got.length gc) got, ob 5 (.slice aa al.length ac) al, rt h (.slice ra rs.length rc) rs]) ?_ ?_
  · exact ⟨_, 0, [], [], all, aa, some ⟨h'.next, 0, none⟩, ac, 0, by omega, by simp, by simp [hpa], rfl, by omega, by simp [go_sem], by simp [hpa], by simp [hpa], fun _ => rfl, kg.b3.b3.p2⟩
  rintro m s h3 ⟨n, got, r, al, aa2, ga, ac2, gc, hn, hra, hgl, rfl, hne, rfl, hrs2, hp2, hr0, kt2⟩
  by_cases hz : al = []
  · subst hz
    obtain rfl := hr0 rfl
    simp only [List.append_nil, parse_nil] at hrs2
    subst hrs2
    (repeat' first
      | refine AWP.seq ?_
      | refine AWP.block ?_
      | (refine AWP.skip ?_; try dsimp only [thn, inBlk])
      | (refine AWP.exit ?_; try simp only [thn, inBlk, if_true])
      | (refine AWP.ret ?_; try dsimp only [thn, inBlk])
      | (refine AWP.condT ?_ ?_; (focus (simp [go_sem]; done)))
      | (refine AWP.condF ?_ ?_; (focus (simp [go_sem]; done)))
      | (apply AWP.rE; (focus (simp [go_sem]; exact ⟨rfl, rfl⟩)); try dsimp only [thn, inBlk])
      | fail)
    refine AWP.callE (by simp [go_sem]; exact ⟨rfl, rfl, rfl, rfl, rfl⟩) (by kernel_rfl) ?_
    refine (same_calls (kt2.b1.brecs_read) (rt_br hb kt2.b3) (by omega)).mono ?_
    rintro v h5 ⟨rfl, rfl⟩
    simp only [decide_true]
    refine awpL_toCall (by simp [go_sem]; exact ⟨rfl, rfl, rfl, rfl, rfl⟩) (by kernel_rfl) ?_
    refine (rest_calls kt2).mono ?_
    rintro v h6 ⟨rfl, rfl⟩
    refine awpL_restE (by simp [go_sem]; exact ⟨rfl, rfl⟩) ?_; try dsimp only [thn, inBlk]
    (repeat' first
      | refine AWP.seq ?_
      | refine AWP.block ?_
      | (refine AWP.skip ?_; try dsimp only [thn, inBlk])
      | (refine AWP.exit ?_; try simp only [thn, inBlk, if_true])
      | (refine AWP.ret ?_; try dsimp only [thn, inBlk])
      | (refine AWP.condT ?_ ?_; (focus (simp [go_sem]; done)))
      | (refine AWP.condF ?_ ?_; (focus (simp [go_sem]; done)))
      | (apply AWP.rE; (focus (simp [go_sem]; exact ⟨rfl, rfl⟩)); try dsimp only [thn, inBlk])
      | fail)
    simp [bodyQ, thn, inBlk, resA, resV, go_sem]
  have hlt : 0 < al.length := List.length_pos_iff.2 hz
  have hlt' : (0 : Int) < al.length := by omega
  have hn2 : n ≤ zs.length := by
    rcases Nat.lt_or_ge n (zs.length + 1) with h1 | h1
    · omega
    · exact absurd (hne (by omega)) hz
  (repeat' first
    | refine AWP.seq ?_
    | refine AWP.block ?_
    | (refine AWP.skip ?_; try dsimp only [thn, inBlk])
    | (refine AWP.exit ?_; try simp only [thn, inBlk, if_true])
    | (refine AWP.ret ?_; try dsimp only [thn, inBlk])
    | (refine AWP.condT ?_ ?_; (focus (simp [go_sem, hlt]; done)))
    | (refine AWP.condF ?_ ?_; (focus (simp [go_sem, hlt]; done)))
    | (apply AWP.rE; (focus (simp [go_sem, hlt]; exact ⟨rfl, rfl⟩)); try dsimp only [thn, inBlk])
    | fail)
  refine AWP.cutT [1, 5, 6, 7, 12, 13, 14] (fun s h' => ∃ (q : Nat), q ≤ al.length ∧ (n = zs.length → q = al.length) ∧ s = ⟨102, [(1, .slice za zs.length zc), (5, ptr i), (6, .slice aa2 al.length ac2), (7, .slice ra rs.length rc), (12, .slice ga got.length gc), (13, .int .i64 n), (14, .int .i64 q)]⟩ ∧ h' = h3) ?_ ?_
  · by_cases hn3 : n < zs.length
    · have hn4 : (n : Int) < zs.length := by omega
      have hg : (zs.map (Value.int .i64))[n]? = some (.int .i64 zs[n]) := by simp [hn3]
      obtain ⟨bi, bo, c, e', sz, ti, ro, q1, q2, q3⟩ := (h1.of_old hb kt2).at1 (P := Try.prog) (t := 43) Try.underlying43 tsz3 hn3 hg (kd := .i64)
      have wl : IntKind.i64.wrap ((al.length : Int) + 1) = ((al.length + 1 : Nat) : Int) := by rw [wI64 (by omega) (by omega)]; omega
      generalize zs[n] = z at *
      obtain ⟨x, hx, wx⟩ := and_mask z 65535 (by omega)
      have w0 : ((al.length : Int) + 1 = 0) = False := by simp; omega
      have wm : (x : Int).tmod ((al.length : Int) + 1) = ((x % (al.length + 1) : Nat) : Int) := tmod_nat x (al.length + 1)
      have hlt2 : x % (al.length + 1) < al.length + 1 := Nat.mod_lt _ (by omega)
      (repeat' first
        | refine AWP.seq ?_
        | refine AWP.block ?_
        | (refine AWP.skip ?_; try dsimp only [thn, inBlk])
        | (refine AWP.exit ?_; try simp only [thn, inBlk, if_true])
        | (refine AWP.ret ?_; try dsimp only [thn, inBlk])
        | (refine AWP.condT ?_ ?_; (focus (simp [go_sem, hn3, q1, q2, q3, wl, w0, wx, wm]; done)))
        | (refine AWP.condF ?_ ?_; (focus (simp [go_sem, hn3, q1, q2, q3, wl, w0, wx, wm]; done)))
        | (apply AWP.rE; (focus (simp [go_sem, hn3, q1, q2, q3, wl, w0, wx, wm]; exact ⟨rfl, rfl⟩)); try dsimp only [thn, inBlk])
        | fail)
      exact ⟨x % (al.length + 1), by omega, fun e => absurd e (by omega), by simp [go_sem], rfl⟩
    · (repeat' first
        | refine AWP.seq ?_
        | refine AWP.block ?_
        | (refine AWP.skip ?_; try dsimp only [thn, inBlk])
        | (refine AWP.exit ?_; try simp only [thn, inBlk, if_true])
        | (refine AWP.ret ?_; try dsimp only [thn, inBlk])
        | (refine AWP.condT ?_ ?_; (focus (simp [go_sem, hn3]; done)))
        | (refine AWP.condF ?_ ?_; (focus (simp [go_sem, hn3]; done)))
        | (apply AWP.rE; (focus (simp [go_sem, hn3]; exact ⟨rfl, rfl⟩)); try dsimp only [thn, inBlk])
        | fail)
      exact ⟨al.length, by omega, fun _ => rfl, by simp [go_sem], rfl⟩
  · rintro s h4 ⟨q, hq, hqn, rfl, rfl⟩
    obtain ⟨f, r', hfe, hrs3, hp3, hrl, hpr⟩ := feed_piece (r := r) (all := al) (rs := (parse (r ++ al)).1) q (by rw [← hp2])
    have hpc : ∀ hh, Own h.asOld hh [frs (.slice ga got.length gc) got, ob 5 (.slice aa2 al.length ac2) al, rt h (.slice ra rs.length rc) rs] → _ := fun hh kk =>
      kk.b1.ob_bytes.piece (P := Try.prog) (t := 26) (e := 5) Try.underlying26 tsz5 (lo := 0) (hi := q) (by omega) hq (l := none) (u := some (.int .i64 q)) (.inl ⟨rfl, rfl⟩) (.inr ⟨.i64, rfl⟩)
    have hs1 := (hpc _ kt2.tail).1
    (repeat' first
      | refine AWP.seq ?_
      | refine AWP.block ?_
      | (refine AWP.skip ?_; try dsimp only [thn, inBlk])
      | (refine AWP.exit ?_; try simp only [thn, inBlk, if_true])
      | (refine AWP.ret ?_; try dsimp only [thn, inBlk])
      | (refine AWP.condT ?_ ?_; (focus (simp [go_sem]; done)))
      | (refine AWP.condF ?_ ?_; (focus (simp [go_sem]; done)))
      | (apply AWP.rE; (focus (simp [go_sem]; exact ⟨rfl, rfl⟩)); try dsimp only [thn, inBlk])
      | fail)
    refine AWP.callE (by simp [go_sem, hs1]; exact ⟨rfl, rfl, rfl, rfl, rfl⟩) (by kernel_rfl) ?_
    refine (feed_calls (xs := al.take q) kt2 (fun hh kk => by simpa using (hpc hh kk).2) (fun e => absurd rfl e) (by simp; omega)).mono ?_
    rintro v h5 ⟨a5, c5, rfl, k5⟩
    rw [hfe] at k5 ⊢
    simp only at k5
    refine awpL_restE (by simp [go_sem]; exact ⟨rfl, rfl⟩) ?_; try dsimp only [thn, inBlk]
    have hfl : got.length + f.length ≤ rs.length := by rw [hrs2, hrs3]; simp
    obtain ⟨a6, c6, h6, e6, k6⟩ := frs_app k5.b1.b2 (by omega)
    have hpd : ∀ hh R, Own h.asOld hh (ob 5 (.slice aa2 al.length ac2) al :: R) → _ := fun hh R kk =>
      kk.ob_bytes.piece (P := Try.prog) (t := 26) (e := 5) Try.underlying26 tsz5 (lo := q) (hi := al.length) hq (by omega) (l := some (.int .i64 q)) (u := none) (.inr ⟨.i64, rfl⟩) (.inl ⟨rfl, rfl⟩)
    have s5 := (hpd _ _ k5.b3).1
    have s6 := (hpd _ _ k6.b2).1
    obtain ⟨v7, e7, k7⟩ := k6.b2.ob_slice (P := Try.prog) (t := 26) (e := 5) Try.underlying26 tsz5 (lo := q) (hi := al.length) hq (by omega) (l := some (.int .i64 q)) (u := none) (.inr ⟨.i64, rfl⟩) (.inl ⟨rfl, rfl⟩)
    obtain rfl : sliceV 1 q al.length (.slice aa2 al.length ac2) = v7 := Option.some.inj (s6.symm.trans e7)
    obtain ⟨a8, c8, e8⟩ := k7.os_val
    rw [e8] at k7 s5 s6
    have hdl : (al.take al.length).drop q = al.drop q := by rw [List.take_of_length_le (Nat.le_refl _)]
    rw [hdl] at k7 s5 s6
    have hdn : (al.drop q).length = al.length - q := by simp
    have wn : IntKind.i64.wrap ((n : Int) + 1) = ((n + 1 : Nat) : Int) := by rw [wI64 (by omega) (by omega)]; omega
    (repeat' first
      | refine AWP.seq ?_
      | refine AWP.block ?_
      | (refine AWP.skip ?_; try dsimp only [thn, inBlk])
      | (refine AWP.exit ?_; try simp only [thn, inBlk, if_true])
      | (refine AWP.ret ?_; try dsimp only [thn, inBlk])
      | (refine AWP.condT ?_ ?_; (focus (simp [go_sem]; done)))
      | (refine AWP.condF ?_ ?_; (focus (simp [go_sem]; done)))
      | (apply AWP.rE; (focus (simp [go_sem]; exact ⟨rfl, rfl⟩)); try dsimp only [thn, inBlk])
      | fail)
    refine AWP.draw hmix [.n 0 [12], .n 1 [15], .n 3 [6], .n 4 [14], .n 5 [91, 92], .w 2 [88, 89] [5], .n 6 [90], .n 7 [93]] (by kernel_rfl) ?_
    refine awpD_writeR 5 (by rfl) (by rfl) (by simp [go_sem, e6, s5, s6]; exact ⟨rfl, rfl, rfl⟩) (by rfl) (by rfl) (by simp [go_sem]) (by simp [go_sem, e6, s5, s6]; exact ⟨rfl, rfl⟩) (by simp [still, go_sem, e6, s5, s6]) ?_
    refine awpD_restR (by rfl) (by simp [go_sem]; exact ⟨rfl, rfl, rfl⟩) ?_; try dsimp only [thn, inBlk]
    (repeat' first
      | refine AWP.seq ?_
      | refine AWP.block ?_
      | (refine AWP.skip ?_; try dsimp only [thn, inBlk])
      | (refine AWP.exit ?_; try simp only [thn, inBlk, if_true])
      | (refine AWP.ret ?_; try dsimp only [thn, inBlk])
      | (refine AWP.condT ?_ ?_; (focus (simp [go_sem, wn]; done)))
      | (refine AWP.condF ?_ ?_; (focus (simp [go_sem, wn]; done)))
      | (apply AWP.rE; (focus (simp [go_sem, wn]; exact ⟨rfl, rfl⟩)); try dsimp only [thn, inBlk])
      | fail)
    refine ⟨(zs.length - (n + 1)) + (al.drop q).length, by rw [hdn]; omega, n + 1, got ++ f, r', al.drop q, a8, a6, c8, c6, by omega, ?_, ?_, rfl, ?_, ?_, ?_, hp3, ?_, ?_⟩
    · simp only [List.length_take] at hrl; rw [hdn]; omega
    · rw [List.length_append, Nat.add_assoc, ← List.length_append, ← hrs3]; exact hgl
    · intro e; exact List.drop_of_length_le (by have := hqn (by omega); omega)
    · simp [go_sem]
    · rw [List.append_assoc, ← hrs3]; exact hrs2
    · intro e
      rw [e, List.append_nil, hpr] at hp3
      exact congrArg Prod.fst hp3
    · rw [List.length_append]; (refine Own.sbl ?_ (k7); repeat' first | exact Sbl.nil _ | with_reducible exact Sbl.rfl _ | (apply Sbl.cons) | with_reducible exact Fnd.head _ _ | (apply Fnd.tail))
end L17
