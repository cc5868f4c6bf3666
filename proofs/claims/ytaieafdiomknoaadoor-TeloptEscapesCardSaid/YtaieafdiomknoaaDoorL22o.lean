import Derived.Test.YtaieafdiomknoaaDoorL22n
open Go Ab Go.Proofs
namespace L22
set_option autoImplicit false
set_option linter.unusedSimpArgs false
set_option linter.unusedVariables false

set_option maxHeartbeats 8000000 in
theorem escapes_calls {h : AHeap} {v : Value} {ps : List (List UInt8)} {zv zo : Int} (hb : h.base = h.next) (hp : Pcs h v ps) :
    ACalls Tryd.prog 6 #[v, .int .i64 zv, .int .i64 zo] h fun r _ => r = .bool true := by
  refine Own.of_wf fun k0 => ?_
  obtain ⟨va, vc, rfl⟩ := hp.val
  obtain ⟨cs, sl, hcs⟩ := hp
  refine ACalls.of_awp (args := [.slice va ps.length vc, .int .i64 zv, .int .i64 zo]) (n := 113) Tryd.func6 rfl rfl (by show 3 ≤ 113; omega) ?_
  (repeat' first
    | refine AWP.seq ?_
    | refine AWP.block ?_
    | (refine AWP.skip ?_; try dsimp only [thn, inBlk])
    | (refine AWP.exit ?_; try simp only [thn, inBlk, if_true, reduceIte, Nat.reduceEqDiff])
    | (refine AWP.ret ?_; try dsimp only [thn, inBlk])
    | (refine AWP.condT ?_ ?_; (focus (simp [go_sem]; done)))
    | (refine AWP.condF ?_ ?_; (focus (simp [go_sem]; done)))
    | (apply AWP.rE; (focus (simp [go_sem]; exact ⟨rfl, rfl⟩)); try dsimp only [thn, inBlk])
    | fail)
  refine AWP.callE (by simp [go_sem]; exact ⟨rfl, rfl, rfl, rfl, rfl⟩) (by kernel_rfl) ?_
  refine (speaks_calls k0).mono ?_
  rintro r h1 ⟨rfl, k1⟩
  refine awpL_restE (by simp [go_sem]; exact ⟨rfl, rfl⟩) ?_; try dsimp only [thn, inBlk]
  by_cases hl : 10 < ps.length
  · have hl' : (10 : Int) < ps.length := by omega
    (repeat' first
      | refine AWP.seq ?_
      | refine AWP.block ?_
      | (refine AWP.skip ?_; try dsimp only [thn, inBlk])
      | (refine AWP.exit ?_; try simp only [thn, inBlk, if_true, reduceIte, Nat.reduceEqDiff])
      | (refine AWP.ret ?_; try dsimp only [thn, inBlk])
      | (refine AWP.condT ?_ ?_; (focus (simp [go_sem, hl']; done)))
      | (refine AWP.condF ?_ ?_; (focus (simp [go_sem, hl']; done)))
      | (apply AWP.rE; (focus (simp [go_sem, hl']; exact ⟨rfl, rfl⟩)); try dsimp only [thn, inBlk])
      | fail)
    simp [bodyQ, thn, inBlk, resA, resV, go_sem]
  have hl' : ¬ (10 : Int) < ps.length := by omega
  (repeat' first
    | refine AWP.seq ?_
    | refine AWP.block ?_
    | (refine AWP.skip ?_; try dsimp only [thn, inBlk])
    | (refine AWP.exit ?_; try simp only [thn, inBlk, if_true, reduceIte, Nat.reduceEqDiff])
    | (refine AWP.ret ?_; try dsimp only [thn, inBlk])
    | (refine AWP.condT ?_ ?_; (focus (simp [go_sem, hl']; done)))
    | (refine AWP.condF ?_ ?_; (focus (simp [go_sem, hl']; done)))
    | (apply AWP.rE; (focus (simp [go_sem, hl']; exact ⟨rfl, rfl⟩)); try dsimp only [thn, inBlk])
    | fail)
  refine AWP.callE (by simp [go_sem]; exact ⟨rfl, rfl, rfl, rfl, rfl⟩) (by kernel_rfl) ?_
  refine (new_calls k1).mono ?_
  rintro r h2 ⟨i, rfl, k2⟩
  refine awpL_restE (by simp [go_sem]; exact ⟨rfl, rfl⟩) ?_; try dsimp only [thn, inBlk]
  (repeat' first
    | refine AWP.seq ?_
    | refine AWP.block ?_
    | (refine AWP.skip ?_; try dsimp only [thn, inBlk])
    | (refine AWP.exit ?_; try simp only [thn, inBlk, if_true, reduceIte, Nat.reduceEqDiff])
    | (refine AWP.ret ?_; try dsimp only [thn, inBlk])
    | (refine AWP.condT ?_ ?_; (focus (simp [go_sem]; done)))
    | (refine AWP.condF ?_ ?_; (focus (simp [go_sem]; done)))
    | (apply AWP.rE; (focus (simp [go_sem]; exact ⟨rfl, rfl⟩)); try dsimp only [thn, inBlk])
    | fail)
  refine AWP.loopR [0, 1, 2, 7, 8, 9, 10, 31, 32, 33] (fun m s h' => ∃ j S, j ≤ ps.length ∧ m = ps.length - j ∧ s = ⟨113, [(0, .slice va ps.length vc), (1, .int .i64 zv), (2, .int .i64 zo), (7, ptr i), (8, .string ⟨(ps.take j).flatten.toArray⟩), (9, .string ⟨(ps.take j).flatten.toArray⟩), (10, .int .i64 (j : Nat)), (31, .slice va ps.length vc), (32, .int .i64 (ps.length : Nat)), (33, .int .i64 (j : Nat))]⟩ ∧
    Zs S ∧ (ps.take j).flatten.length ≤ 300 * j ∧ Own h.asOld h' [rdz i S]) ?_ ?_
  · exact ⟨_, 0, rd0, by omega, rfl, by simp; rfl, ⟨rfl, rfl, rfl⟩, by simp, to_rdz k2⟩
  rintro m s h' ⟨j, S, hj, rfl, rfl, hS, hW, k3⟩
  generalize hWd : (ps.take j).flatten = W at *
  by_cases hjm : j < ps.length
  rotate_left
  · have hj1 : ¬ (j : Int) < ps.length := by omega
    obtain rfl : j = ps.length := by omega
    (repeat' first
      | refine AWP.seq ?_
      | refine AWP.block ?_
      | (refine AWP.skip ?_; try dsimp only [thn, inBlk])
      | (refine AWP.exit ?_; try simp only [thn, inBlk, if_true, reduceIte, Nat.reduceEqDiff])
      | (refine AWP.ret ?_; try dsimp only [thn, inBlk])
      | (refine AWP.condT ?_ ?_; (focus (simp [go_sem]; done)))
      | (refine AWP.condF ?_ ?_; (focus (simp [go_sem]; done)))
      | (apply AWP.rE; (focus (simp [go_sem]; exact ⟨rfl, rfl⟩)); try dsimp only [thn, inBlk])
      | fail)
    simp [bodyQ, thn, inBlk, resA, resV, go_sem]
  have hj1 : (j : Int) < ps.length := by omega
  obtain ⟨a0, n0, ec, b0⟩ := hcs j hjm
  obtain ⟨i0, o0, c0, e0, z0, ti0, ro0, p0, q0, g0⟩ := (sl.of_old hb k3).at1 (P := Tryd.prog) (t := 38) (e := 22) Tryd.underlying38 tsz22 hjm ec (kd := .i64)
  have htk : (ps.take (j + 1)).flatten = W ++ ps[j] := by rw [List.take_succ_eq_append_getElem hjm, List.flatten_append, hWd]; simp
  obtain ⟨d, hd⟩ : ∃ d, d = ps[j] := ⟨_, rfl⟩
  rw [← hd] at g0 b0 htk
  by_cases hl3 : 300 < d.length
  · have hl3' : (300 : Int) < d.length := by omega
    (repeat' first
      | refine AWP.seq ?_
      | refine AWP.block ?_
      | (refine AWP.skip ?_; try dsimp only [thn, inBlk])
      | (refine AWP.exit ?_; try simp only [thn, inBlk, if_true, reduceIte, Nat.reduceEqDiff])
      | (refine AWP.ret ?_; try dsimp only [thn, inBlk])
      | (refine AWP.condT ?_ ?_; (focus (simp [go_sem, hj1, p0, q0, g0, hl3']; done)))
      | (refine AWP.condF ?_ ?_; (focus (simp [go_sem, hj1, p0, q0, g0, hl3']; done)))
      | (apply AWP.rE; (focus (simp [go_sem, hj1, p0, q0, g0, hl3']; exact ⟨rfl, rfl⟩)); try dsimp only [thn, inBlk])
      | fail)
    simp [bodyQ, thn, inBlk, resA, resV, go_sem]
  have hl3' : ¬ (300 : Int) < d.length := by omega
  (repeat' first
    | refine AWP.seq ?_
    | refine AWP.block ?_
    | (refine AWP.skip ?_; try dsimp only [thn, inBlk])
    | (refine AWP.exit ?_; try simp only [thn, inBlk, if_true, reduceIte, Nat.reduceEqDiff])
    | (refine AWP.ret ?_; try dsimp only [thn, inBlk])
    | (refine AWP.condT ?_ ?_; (focus (simp [go_sem, hj1, p0, q0, g0, hl3']; done)))
    | (refine AWP.condF ?_ ?_; (focus (simp [go_sem, hj1, p0, q0, g0, hl3']; done)))
    | (apply AWP.rE; (focus (simp [go_sem, hj1, p0, q0, g0, hl3']; exact ⟨rfl, rfl⟩)); try dsimp only [thn, inBlk])
    | fail)
  refine AWP.callE (by simp [go_sem]; exact ⟨rfl, rfl, rfl, rfl, rfl⟩) (by kernel_rfl) ?_
  refine (write_calls (kd := 1) (v := 0) (o := 0) (bs := d) k3 (fun hh kk => b0.of_old hb kk) (by omega)).mono ?_
  rintro r h4 ⟨a4, n4, rfl, k4⟩
  have er1 : right 1 0 0 d.length = 0 := by simp only [right]; rw [if_neg (by omega), if_neg (by omega), if_neg (by omega), if_neg (by omega)]
  have ew1 : wr 1 0 0 d = esc d := by simp [wr, er1, wbytes]
  rw [ew1] at k4
  rw [er1, ew1]
  refine awpL_restE (by simp [go_sem]; exact ⟨rfl, rfl⟩) ?_; try dsimp only [thn, inBlk]
  obtain ⟨x, hx, wx⟩ := and_mask zv 3 (by omega)
  obtain ⟨y, hy, wy⟩ := and_mask zo 255 (by omega)
  have w1 : IntKind.i64.wrap (251 + (x : Int)) = ((251 + x : Nat) : Int) := by rw [wI64 (by omega) (by omega)]; omega
  obtain ⟨X, hX⟩ : ∃ X, X = 251 + x := ⟨_, rfl⟩
  rw [← hX] at w1
  (repeat' first
    | refine AWP.seq ?_
    | refine AWP.block ?_
    | (refine AWP.skip ?_; try dsimp only [thn, inBlk])
    | (refine AWP.exit ?_; try simp only [thn, inBlk, if_true, reduceIte, Nat.reduceEqDiff])
    | (refine AWP.ret ?_; try dsimp only [thn, inBlk])
    | (refine AWP.condT ?_ ?_; (focus (simp [go_sem]; done)))
    | (refine AWP.condF ?_ ?_; (focus (simp [go_sem]; done)))
    | (apply AWP.rE; (focus (simp [go_sem]; exact ⟨rfl, rfl⟩)); try dsimp only [thn, inBlk])
    | fail)
  refine AWP.callE (by simp [go_sem, wx, wy, w1]; exact ⟨rfl, rfl, rfl, rfl, rfl⟩) (by kernel_rfl) ?_
  refine (write_calls (kd := 2) (v := X) (o := y) (bs := []) k4 (fun hh kk => Bytes.nil hh) (by simp)).mono ?_
  rintro r h5 ⟨a5, n5, rfl, k5⟩
  obtain ⟨bx, hbx⟩ : ∃ bx, bx = UInt8.ofNat (X : Int).toNat := ⟨_, rfl⟩
  obtain ⟨bo, hbo⟩ : ∃ bo, bo = UInt8.ofNat (y : Int).toNat := ⟨_, rfl⟩
  have er2 : right 2 X y ([] : List UInt8).length = 0 := by simp only [right]; rw [if_neg (by omega), if_neg (by omega), if_pos trivial, if_neg (by omega)]
  have ew2 : wr 2 X y [] = [255, bx, bo] := by simp only [wr, er2, wbytes, hbx, hbo, if_true]
  have hbx1 : 251 ≤ bx := by rw [UInt8.le_iff_toNat_le, hbx]; show 251 ≤ _; simp [UInt8.toNat_ofNat']; omega
  have hbx2 : bx ≠ 255 := by
    intro h
    have := congrArg UInt8.toNat (hbx.symm.trans h)
    simp [UInt8.toNat_ofNat'] at this; omega
  rw [ew2] at k5
  rw [er2, ew2]
  refine awpL_restE (by simp [go_sem]; exact ⟨rfl, rfl⟩) ?_; try dsimp only [thn, inBlk]
  have s0 := (b0.of_old hb k5).str (P := Tryd.prog) (t := 22) (e := 5) (u := 9) Tryd.underlying22 Tryd.underlying5 Tryd.underlying9
  have hesc := esc_length d
  have hcnt := List.count_le_length (a := (255 : UInt8)) (l := d)
  have hadd : W.length + d.length ≤ 9223372036854775807 := by omega
  obtain ⟨a6, n6, h6, e6, k6⟩ := Own.appB (P := Tryd.prog) (t := 22) (xt := 22) Tryd.underlying22 tsz5 tby5 tz5 nI22 k5.b1 k5.ob_bytes.src (by show _ + 3 ≤ _; omega)
  have e6 : appendW Tryd.prog h5 22 22 (.slice a4 (esc d).length n4) (.slice a5 3 n5) = some (.slice a6 ((esc d).length + 3) n6, h6) := e6
  obtain ⟨L, hL⟩ : ∃ L, L = esc d ++ [255, bx, bo] := ⟨_, rfl⟩
  have hLl : L.length = (esc d).length + 3 := by rw [hL]; simp
  have k7 : Own h.asOld h6 [rdz i S, ob 5 (.slice a6 L.length n6) L] := by
    rw [hLl]
    have := k6.d1
    rw [← hL] at this
    exact this.b1
  have hrun := OkRun.data (b := [255, bx, bo]) (gs := []) (n := 1) (fun s hs => OkRun.verb hbx1 hbx2 hs) d S hS
  rw [← hL, List.append_nil] at hrun
  rw [← hLl] at e6
  (repeat' first
    | refine AWP.seq ?_
    | refine AWP.block ?_
    | (refine AWP.skip ?_; try dsimp only [thn, inBlk])
    | (refine AWP.exit ?_; try simp only [thn, inBlk, if_true, reduceIte, Nat.reduceEqDiff])
    | (refine AWP.ret ?_; try dsimp only [thn, inBlk])
    | (refine AWP.condT ?_ ?_; (focus (simp [go_sem, s0, hadd, e6]; done)))
    | (refine AWP.condF ?_ ?_; (focus (simp [go_sem, s0, hadd, e6]; done)))
    | (apply AWP.rE; (focus (simp [go_sem, s0, hadd, e6]; exact ⟨rfl, rfl⟩)); try dsimp only [thn, inBlk])
    | fail)
  refine AWP.loopR [0, 1, 2, 7, 8, 9, 10, 14, 16, 31, 32, 33, 62, 63, 64] (fun m s h' => ∃ q T G vb gs n, q ≤ L.length ∧ m = L.length - q ∧ s = ⟨113, [(0, .slice va ps.length vc), (1, .int .i64 zv), (2, .int .i64 zo), (7, ptr i), (8, .string ⟨(W ++ d).toArray⟩), (9, .string ⟨G.toArray⟩), (10, .int .i64 (vb : Nat)), (14, .int .i64 0), (16, .int .i64 0), (31, .slice va ps.length vc), (32, .int .i64 (ps.length : Nat)), (33, .int .i64 (j : Nat)), (62, .slice a6 L.length n6), (63, .int .i64 (L.length : Nat)), (64, .int .i64 (q : Nat))]⟩ ∧
    OkRun T (L.drop q) gs n ∧ G ++ gs = W ++ d ∧ vb + n = j + 1 ∧ Own h.asOld h' [rdz i T, ob 5 (.slice a6 L.length n6) L]) ?_ ?_
  · exact ⟨_, 0, S, W, j, d, 1, by omega, rfl, by simp [go_sem], hrun, rfl, rfl, k7⟩
  rintro m s h7 ⟨q, T, G, vb, gs, n, hq, rfl, rfl, hT, hG, hvb, k8⟩
  by_cases hqm : q < L.length
  rotate_left
  · have hq1 : ¬ (q : Int) < L.length := by omega
    obtain rfl : q = L.length := by omega
    rw [List.drop_length] at hT
    obtain ⟨rfl, rfl, hZ⟩ := hT
    have w8 : IntKind.i64.wrap ((j : Int) + 1) = ((j + 1 : Nat) : Int) := by rw [wI64 (by omega) (by omega)]; omega
    (repeat' first
      | refine AWP.seq ?_
      | refine AWP.block ?_
      | (refine AWP.skip ?_; try dsimp only [thn, inBlk])
      | (refine AWP.exit ?_; try simp only [thn, inBlk, if_true, reduceIte, Nat.reduceEqDiff])
      | (refine AWP.ret ?_; try dsimp only [thn, inBlk])
      | (refine AWP.condT ?_ ?_; (focus (simp [go_sem, hq1, w8]; done)))
      | (refine AWP.condF ?_ ?_; (focus (simp [go_sem, hq1, w8]; done)))
      | (apply AWP.rE; (focus (simp [go_sem, hq1, w8]; exact ⟨rfl, rfl⟩)); try dsimp only [thn, inBlk])
      | fail)
    refine ⟨ps.length - (j + 1), by omega, j + 1, T, by omega, rfl, ?_, hZ, ?_, k8.d1⟩
    · rw [htk]
      rw [List.append_nil] at hG
      rw [hG]
      obtain rfl : vb = j + 1 := by omega
      simp [go_sem]
    · rw [htk, List.length_append]; omega
  have hq1 : (q : Int) < L.length := by omega
  obtain ⟨c, hcc⟩ : ∃ c, c = L[q] := ⟨_, rfl⟩
  rw [List.drop_eq_getElem_cons hqm, ← hcc] at hT
  obtain ⟨hpd, hbr, gs', n', rfl, rfl, hT'⟩ := hT
  obtain ⟨i1, o1, c1, e1, z1, ti1, ro1, p1, q1, g1⟩ := k8.b1.ob_bytes.at (P := Tryd.prog) (t := 22) Tryd.underlying22 tsz5 hqm (kd := .i64)
  rw [← hcc] at g1
  have k9 : Own h.asOld (h7.push (.row [.int .u8 c.toNat] 5 1 true false)) [ob 5 (.slice (some ⟨h7.next, 0, none⟩) 1 1) [c], rdz i T, ob 5 (.slice a6 L.length n6) L] := k8.fresh (e := 5) (bs := [c])
  (repeat' first
    | refine AWP.seq ?_
    | refine AWP.block ?_
    | (refine AWP.skip ?_; try dsimp only [thn, inBlk])
    | (refine AWP.exit ?_; try simp only [thn, inBlk, if_true, reduceIte, Nat.reduceEqDiff])
    | (refine AWP.ret ?_; try dsimp only [thn, inBlk])
    | (refine AWP.condT ?_ ?_; (focus (simp [go_sem, hq1, p1, q1, g1]; done)))
    | (refine AWP.condF ?_ ?_; (focus (simp [go_sem, hq1, p1, q1, g1]; done)))
    | (apply AWP.rE; (focus (simp [go_sem, hq1, p1, q1, g1]; exact ⟨rfl, rfl⟩)); try dsimp only [thn, inBlk])
    | fail)
  refine AWP.callE (by simp [go_sem]; exact ⟨rfl, rfl, rfl, rfl, rfl⟩) (by kernel_rfl) ?_
  refine (feed_calls (bs := [c]) k9.b1 (fun hh kk => kk.ob_bytes) (by simp) hpd).mono ?_
  rintro r h8 ⟨a8, n8, rfl, k10⟩
  obtain ⟨hl1, hl2⟩ := feed1_len (c := c) hpd
  generalize hF : feedR T [c] = F at *
  rw [hbr]
  refine awpL_restE (by simp [go_sem]; exact ⟨rfl, rfl⟩) ?_; try dsimp only [thn, inBlk]
  (repeat' first
    | refine AWP.seq ?_
    | refine AWP.block ?_
    | (refine AWP.skip ?_; try dsimp only [thn, inBlk])
    | (refine AWP.exit ?_; try simp only [thn, inBlk, if_true, reduceIte, Nat.reduceEqDiff])
    | (refine AWP.ret ?_; try dsimp only [thn, inBlk])
    | (refine AWP.condT ?_ ?_; (focus (simp [go_sem]; done)))
    | (refine AWP.condF ?_ ?_; (focus (simp [go_sem]; done)))
    | (apply AWP.rE; (focus (simp [go_sem]; exact ⟨rfl, rfl⟩)); try dsimp only [thn, inBlk])
    | fail)
  have hGl : G.length + (datas F.out).length ≤ 10000 := by
    have := congrArg List.length hG
    simp only [List.length_append] at this; omega
  refine AWP.loopR [0, 1, 2, 7, 8, 9, 10, 14, 16, 31, 32, 33, 62, 63, 64, 85, 86, 87] (fun m s h' => ∃ p, p ≤ F.out.length ∧ m = F.out.length - p ∧ s = ⟨113, [(0, .slice va ps.length vc), (1, .int .i64 zv), (2, .int .i64 zo), (7, ptr i), (8, .string ⟨(W ++ d).toArray⟩), (9, .string ⟨(G ++ datas (F.out.take p)).toArray⟩), (10, .int .i64 ((vb + verbsN (F.out.take p) : Nat) : Int)), (14, .int .i64 0), (16, .int .i64 0), (31, .slice va ps.length vc), (32, .int .i64 (ps.length : Nat)), (33, .int .i64 (j : Nat)), (62, .slice a6 L.length n6), (63, .int .i64 (L.length : Nat)), (64, .int .i64 (q : Nat)), (85, .slice a8 F.out.length n8), (86, .int .i64 (F.out.length : Nat)), (87, .int .i64 (p : Nat))]⟩ ∧
    Own h.asOld h' [tels (.slice a8 F.out.length n8) F.out, rdz i F, ob 5 (.slice a6 L.length n6) L]) ?_ ?_
  · exact ⟨_, 0, by omega, rfl, by simp [go_sem, datas, verbsN], k10.d2⟩
  rintro m s h9 ⟨p, hpl, rfl, rfl, k11⟩
  by_cases hpm : p < F.out.length
  rotate_left
  · have hp1 : ¬ (p : Int) < F.out.length := by omega
    obtain rfl : p = F.out.length := by omega
    have w8 : IntKind.i64.wrap ((q : Int) + 1) = ((q + 1 : Nat) : Int) := by rw [wI64 (by omega) (by omega)]; omega
    rw [List.take_length]
    generalize hD : datas F.out = D at *
    generalize hV : verbsN F.out = V at *
    (repeat' first
      | refine AWP.seq ?_
      | refine AWP.block ?_
      | (refine AWP.skip ?_; try dsimp only [thn, inBlk])
      | (refine AWP.exit ?_; try simp only [thn, inBlk, if_true, reduceIte, Nat.reduceEqDiff])
      | (refine AWP.ret ?_; try dsimp only [thn, inBlk])
      | (refine AWP.condT ?_ ?_; (focus (simp [go_sem, hp1, w8]; done)))
      | (refine AWP.condF ?_ ?_; (focus (simp [go_sem, hp1, w8]; done)))
      | (apply AWP.rE; (focus (simp [go_sem, hp1, w8]; exact ⟨rfl, rfl⟩)); try dsimp only [thn, inBlk])
      | fail)
    exact ⟨L.length - (q + 1), by omega, q + 1, F, G ++ D, vb + V, gs', n', by omega, rfl, by simp [go_sem], hT', by rw [List.append_assoc]; exact hG, by omega, k11.tail⟩
  have hp1 : (p : Int) < F.out.length := by omega
  obtain ⟨i2, o2, c2, e2, z2, ti2, ro2, a9, n9, p2, q2, g2, _, _, g2', l2, f2, b2⟩ := tl_at k11.brecs_read hpm (kd := .i64)
  have htp : F.out.take (p + 1) = F.out.take p ++ [F.out[p]] := List.take_succ_eq_append_getElem hpm
  have hdl : (datas (F.out.take p)).length + F.out[p].2.length ≤ (datas F.out).length := by
    have := congrArg (fun l => (datas l).length) (List.take_append_drop (p + 1) F.out)
    simp only [datas, List.map_append, List.flatten_append, List.length_append] at this
    rw [htp] at this
    simp only [List.map_append, List.flatten_append, List.length_append] at this
    simp [datas] at this ⊢; omega
  obtain ⟨f, hf⟩ : ∃ f, f = F.out[p] := ⟨_, rfl⟩
  rw [← hf] at g2 g2' f2 b2 htp hdl
  obtain ⟨⟨fk, fv, fo⟩, fb⟩ := f
  dsimp only at g2 g2' f2 b2 htp hdl
  have hbx := b2.ext ((Ext.refl h9).push (trow fk fv fo (.slice a9 fb.length n9)))
  have s2 := hbx.str (P := Tryd.prog) (t := 22) (e := 5) (u := 9) Tryd.underlying22 Tryd.underlying5 Tryd.underlying9
  have w9 : IntKind.i64.wrap ((p : Int) + 1) = ((p + 1 : Nat) : Int) := by rw [wI64 (by omega) (by omega)]; omega
  have k12 := (k11.push (trow fk fv fo (.slice a9 fb.length n9))).tail
  have hds := datas_snoc (l := F.out.take p) (x := ((fk, fv, fo), fb))
  have hvs := verbsN_snoc (l := F.out.take p) (x := ((fk, fv, fo), fb))
  rw [← htp] at hds hvs
  dsimp only at hds hvs
  generalize hDp : datas (F.out.take p) = D at *
  generalize hVp : verbsN (F.out.take p) = V at *
  have hVb : V ≤ 10 := by
    have h1 := List.length_filter_le (fun f : Tl => f.1.1 == 2) (F.out.take p)
    simp only [verbsN] at hVp
    simp at h1; omega
  have hadd2 : (G ++ D).length + fb.length ≤ 9223372036854775807 := by rw [List.length_append]; omega
  generalize hGD : G ++ D = E at *
  by_cases hfk : fk = 2
  · have hk : (fk == 2) = true := by simpa using hfk
    rw [if_pos hfk] at hvs
    have w10 : IntKind.i64.wrap (((vb + V : Nat) : Int) + 1) = ((vb + V + 1 : Nat) : Int) := by rw [wI64 (by omega) (by omega)]; omega
    generalize hVV : vb + V = VV at *
    (repeat' first
      | refine AWP.seq ?_
      | refine AWP.block ?_
      | (refine AWP.skip ?_; try dsimp only [thn, inBlk])
      | (refine AWP.exit ?_; try simp only [thn, inBlk, if_true, reduceIte, Nat.reduceEqDiff])
      | (refine AWP.ret ?_; try dsimp only [thn, inBlk])
      | (refine AWP.condT ?_ ?_; (focus (simp [go_sem, hp1, p2, q2, l2, g2, g2', f2, s2, hadd2, hk, w10, w9]; done)))
      | (refine AWP.condF ?_ ?_; (focus (simp [go_sem, hp1, p2, q2, l2, g2, g2', f2, s2, hadd2, hk, w10, w9]; done)))
      | (apply AWP.rE; (focus (simp [go_sem, hp1, p2, q2, l2, g2, g2', f2, s2, hadd2, hk, w10, w9]; exact ⟨rfl, rfl⟩)); try dsimp only [thn, inBlk])
      | fail)
    refine ⟨F.out.length - (p + 1), by omega, p + 1, by omega, rfl, ?_, k12⟩
    rw [hds, hvs, ← List.append_assoc, hGD, show vb + (V + 1) = VV + 1 by omega]
    simp [go_sem]
  · have hk : (fk == 2) = false := by simpa using hfk
    rw [if_neg hfk] at hvs
    generalize hVV : vb + V = VV at *
    (repeat' first
      | refine AWP.seq ?_
      | refine AWP.block ?_
      | (refine AWP.skip ?_; try dsimp only [thn, inBlk])
      | (refine AWP.exit ?_; try simp only [thn, inBlk, if_true, reduceIte, Nat.reduceEqDiff])
      | (refine AWP.ret ?_; try dsimp only [thn, inBlk])
      | (refine AWP.condT ?_ ?_; (focus (simp [go_sem, hp1, p2, q2, l2, g2, g2', f2, s2, hadd2, hk, w9]; done)))
      | (refine AWP.condF ?_ ?_; (focus (simp [go_sem, hp1, p2, q2, l2, g2, g2', f2, s2, hadd2, hk, w9]; done)))
      | (apply AWP.rE; (focus (simp [go_sem, hp1, p2, q2, l2, g2, g2', f2, s2, hadd2, hk, w9]; exact ⟨rfl, rfl⟩)); try dsimp only [thn, inBlk])
      | fail)
    refine ⟨F.out.length - (p + 1), by omega, p + 1, by omega, rfl, ?_, k12⟩
    rw [hds, hvs, ← List.append_assoc, hGD, show vb + (V + 0) = VV by omega]
    simp [go_sem]
end L22
