import Derived.Test.YtledpicaoeffjaaL21d
import Derived.Test.YtledpicaoeffjaaAbWalk2
open Go Ab Go.Proofs
namespace L21
set_option autoImplicit false
set_option linter.unusedSimpArgs false
set_option linter.unusedVariables false

theorem run_line (bs : List UInt8) : ∀ {s t : Pt}, s.line = t.line → s.entered = t.entered → s.stops = t.stops → s.feed bs = t.feed bs := by
  intro s t h1 h2 h3
  obtain ⟨a, b, c, d, e⟩ := s
  obtain ⟨a', b', c', d', e'⟩ := t
  simp only at h1 h2 h3
  subst h1 h2 h3
  rfl

set_option maxHeartbeats 2000000 in
theorem feeds_calls {h : AHeap} {v : Value} {ps : List (List UInt8)} (hb : h.base = h.next) (hp : Pcs h v ps) (hl : ps.length ≤ 9223372036854775807) :
    ACalls Try.prog 5 #[v] h fun r _ => r = .bool true := by
  refine Own.of_wf fun k0 => ?_
  obtain ⟨va, vc, rfl⟩ := hp.val
  refine ACalls.of_awp (args := [.slice va ps.length vc]) (n := 98) Try.func5 rfl rfl (by show 1 ≤ 98; omega) ?_
  (repeat' first
    | refine AWP.seq ?_
    | refine AWP.block ?_
    | (refine AWP.skip ?_; try dsimp only [thn, inBlk])
    | (refine AWP.exit ?_; try simp only [thn, inBlk, if_true])
    | (refine AWP.ret ?_; try dsimp only [thn, inBlk])
    | (refine AWP.condT ?_ ?_; (focus (simp [go_sem]; done)))
    | (refine AWP.condF ?_ ?_; (focus (simp [go_sem]; done)))
    | (apply AWP.rE; (focus (simp [go_sem]; exact ⟨rfl, rfl⟩)); try dsimp only [thn, inBlk])
    | fail)
  refine AWP.callE (by simp [go_sem]; exact ⟨rfl, rfl, rfl, rfl, rfl⟩) (by kernel_rfl) ?_
  refine (speaks_calls k0).mono ?_
  rintro r h1 ⟨rfl, k1⟩
  refine awpL_restE (by simp [go_sem]; exact ⟨rfl, rfl⟩) ?_; try dsimp only [thn, inBlk]
  (repeat' first
    | refine AWP.seq ?_
    | refine AWP.block ?_
    | (refine AWP.skip ?_; try dsimp only [thn, inBlk])
    | (refine AWP.exit ?_; try simp only [thn, inBlk, if_true])
    | (refine AWP.ret ?_; try dsimp only [thn, inBlk])
    | (refine AWP.condT ?_ ?_; (focus (simp [go_sem]; done)))
    | (refine AWP.condF ?_ ?_; (focus (simp [go_sem]; done)))
    | (apply AWP.rE; (focus (simp [go_sem]; exact ⟨rfl, rfl⟩)); try dsimp only [thn, inBlk])
    | fail)
  refine AWP.callE (by simp [go_sem]; exact ⟨rfl, rfl, rfl, rfl, rfl⟩) (by kernel_rfl) ?_
  refine (great_calls (hp.of_old hb k1) hl).mono ?_
  rintro r h2 ⟨g, rfl, rfl, hg⟩
  cases g
  rotate_left
  · refine awpL_restE (by simp [go_sem]; exact ⟨rfl, rfl⟩) ?_; try dsimp only [thn, inBlk]
    (repeat' first
      | refine AWP.seq ?_
      | refine AWP.block ?_
      | (refine AWP.skip ?_; try dsimp only [thn, inBlk])
      | (refine AWP.exit ?_; try simp only [thn, inBlk, if_true])
      | (refine AWP.ret ?_; try dsimp only [thn, inBlk])
      | (refine AWP.condT ?_ ?_; (focus (simp [go_sem]; done)))
      | (refine AWP.condF ?_ ?_; (focus (simp [go_sem]; done)))
      | (apply AWP.rE; (focus (simp [go_sem]; exact ⟨rfl, rfl⟩)); try dsimp only [thn, inBlk])
      | fail)
    simp [bodyQ, thn, inBlk, resA, resV, go_sem]
  have hg := hg rfl
  refine awpL_restE (by simp [go_sem]; exact ⟨rfl, rfl⟩) ?_; try dsimp only [thn, inBlk]
  (repeat' first
    | refine AWP.seq ?_
    | refine AWP.block ?_
    | (refine AWP.skip ?_; try dsimp only [thn, inBlk])
    | (refine AWP.exit ?_; try simp only [thn, inBlk, if_true])
    | (refine AWP.ret ?_; try dsimp only [thn, inBlk])
    | (refine AWP.condT ?_ ?_; (focus (simp [go_sem]; done)))
    | (refine AWP.condF ?_ ?_; (focus (simp [go_sem]; done)))
    | (apply AWP.rE; (focus (simp [go_sem]; exact ⟨rfl, rfl⟩)); try dsimp only [thn, inBlk])
    | fail)
  refine AWP.callE (by simp [go_sem]; exact ⟨rfl, rfl, rfl, rfl, rfl⟩) (by kernel_rfl) ?_
  refine (new_calls k1).mono ?_
  rintro r h3 ⟨i, rfl, k2⟩
  refine awpL_restE (by simp [go_sem]; exact ⟨rfl, rfl⟩) ?_; try dsimp only [thn, inBlk]
  (repeat' first
    | refine AWP.seq ?_
    | refine AWP.block ?_
    | (refine AWP.skip ?_; try dsimp only [thn, inBlk])
    | (refine AWP.exit ?_; try simp only [thn, inBlk, if_true])
    | (refine AWP.ret ?_; try dsimp only [thn, inBlk])
    | (refine AWP.condT ?_ ?_; (focus (simp [go_sem]; done)))
    | (refine AWP.condF ?_ ?_; (focus (simp [go_sem]; done)))
    | (apply AWP.rE; (focus (simp [go_sem]; exact ⟨rfl, rfl⟩)); try dsimp only [thn, inBlk])
    | fail)
  obtain ⟨cs, sl, hcs⟩ := hp
  have k3 := k2.push (rrow ⟨[], false, 0, [], []⟩ 0)
  refine AWP.loopR [3, 4, 23, 24, 25] (fun m s' h' => ∃ (j im : Nat) (t : Pt) (last : UInt8), j ≤ ps.length ∧ m = ps.length - j ∧ s' = ⟨98, [(3, ptr i), (4, ptr im), (23, .slice va ps.length vc), (24, .int .i64 ps.length), (25, .int .i64 j)]⟩ ∧
    (last == 13) = t.entered ∧ t.ok (240 * ((ps.take j).flatten).length) ∧ Own h.asOld h' [pty i t, cell im (rrow t last)]) ?_ ?_
  · refine ⟨_, 0, h3.next, ⟨[], false, 0, [], []⟩, 0, by omega, rfl, by simp [go_sem], rfl, ⟨by simp, by simp, by simp, by simp⟩, k3.b1⟩
  · rintro m s' h' ⟨j, im, t, last, hj, rfl, rfl, hlast, okt, kt⟩
    by_cases hj2 : j < ps.length
    rotate_left
    · have hj3 : ¬ (j : Int) < ps.length := by omega
      (repeat' first
        | refine AWP.seq ?_
        | refine AWP.block ?_
        | (refine AWP.skip ?_; try dsimp only [thn, inBlk])
        | (refine AWP.exit ?_; try simp only [thn, inBlk, if_true])
        | (refine AWP.ret ?_; try dsimp only [thn, inBlk])
        | (refine AWP.condT ?_ ?_; (focus (simp [go_sem, hj3]; done)))
        | (refine AWP.condF ?_ ?_; (focus (simp [go_sem, hj3]; done)))
        | (apply AWP.rE; (focus (simp [go_sem, hj3]; exact ⟨rfl, rfl⟩)); try dsimp only [thn, inBlk])
        | fail)
      simp [bodyQ, thn, inBlk, resA, resV, go_sem]
    have hj3 : (j : Int) < ps.length := by omega
    have w1 : IntKind.i64.wrap ((j : Int) + 1) = j + 1 := wI64 (by omega) (by omega)
    have hfl : ((ps.take (j + 1)).flatten).length = ((ps.take j).flatten).length + ps[j].length := by
      rw [List.take_succ_eq_append_getElem hj2, List.flatten_append, List.length_append]; simp
    have hfl2 : ((ps.take (j + 1)).flatten).length ≤ 2000 := by
      have e : ps.flatten = (ps.take (j + 1)).flatten ++ (ps.drop (j + 1)).flatten := by rw [← List.flatten_append, List.take_append_drop]
      rw [e, List.length_append] at hg; omega
    obtain ⟨pa, pc, ee, bb⟩ := hcs j hj2
    obtain ⟨bi, bo, c, e', sz, ti, ro, q1, q2, q3⟩ := (sl.of_old hb kt).at1 (P := Try.prog) (t := 33) Try.underlying33 tsz25 hj2 ee (kd := .i64)
    have hx : ∀ {hh : AHeap} {L : List Chunk}, Own h.asOld hh L → Bytes hh (.slice pa ps[j].length pc) ps[j] := fun o => bb.of_old hb o
    obtain ⟨a1, c1, h4, e1, k4⟩ := kt.copy (P := Try.prog) (t := 25) (xt := 25) (i := h'.next) Try.underlying25 tsz5 tby5 tz5 nI25 (fun _ o => hx o) (by omega) rfl
    (repeat' first
      | refine AWP.seq ?_
      | refine AWP.block ?_
      | (refine AWP.skip ?_; try dsimp only [thn, inBlk])
      | (refine AWP.exit ?_; try simp only [thn, inBlk, if_true])
      | (refine AWP.ret ?_; try dsimp only [thn, inBlk])
      | (refine AWP.condT ?_ ?_; (focus (simp [go_sem, hj3, q1, q2, q3, e1]; done)))
      | (refine AWP.condF ?_ ?_; (focus (simp [go_sem, hj3, q1, q2, q3, e1]; done)))
      | (apply AWP.rE; (focus (simp [go_sem, hj3, q1, q2, q3, e1]; exact ⟨rfl, rfl⟩)); try dsimp only [thn, inBlk])
      | fail)
    refine AWP.callE (by simp [go_sem]; exact ⟨rfl, rfl, rfl, rfl, rfl⟩) (by kernel_rfl) ?_
    refine (feed_calls (bs := ps[j]) k4.b1 (fun h k => k.ob_bytes) okt (by omega)).mono ?_
    rintro r h5 ⟨vl, aw, cw, an, cn, rfl, k5⟩
    refine awpL_restE (by simp [go_sem]; exact ⟨rfl, rfl⟩) ?_; try dsimp only [thn, inBlk]
    (repeat' first
      | refine AWP.seq ?_
      | refine AWP.block ?_
      | (refine AWP.skip ?_; try dsimp only [thn, inBlk])
      | (refine AWP.exit ?_; try simp only [thn, inBlk, if_true])
      | (refine AWP.ret ?_; try dsimp only [thn, inBlk])
      | (refine AWP.condT ?_ ?_; (focus (simp [go_sem]; done)))
      | (refine AWP.condF ?_ ?_; (focus (simp [go_sem]; done)))
      | (apply AWP.rE; (focus (simp [go_sem]; exact ⟨rfl, rfl⟩)); try dsimp only [thn, inBlk])
      | fail)
    refine AWP.callE (by simp [go_sem]; exact ⟨rfl, rfl, rfl, rfl, rfl⟩) (by kernel_rfl) ?_
    refine (refFeed_calls (bs := ps[j]) (s := t) k5.b5 hlast (fun h k => hx k) okt (by omega)).mono ?_
    rintro r h6 ⟨an2, cn2, last2, rfl, hlast2, k6⟩
    refine awpL_restE (by simp [go_sem]; exact ⟨rfl, rfl⟩) ?_; try dsimp only [thn, inBlk]
    (repeat' first
      | refine AWP.seq ?_
      | refine AWP.block ?_
      | (refine AWP.skip ?_; try dsimp only [thn, inBlk])
      | (refine AWP.exit ?_; try simp only [thn, inBlk, if_true])
      | (refine AWP.ret ?_; try dsimp only [thn, inBlk])
      | (refine AWP.condT ?_ ?_; (focus (simp [go_sem]; done)))
      | (refine AWP.condF ?_ ?_; (focus (simp [go_sem]; done)))
      | (apply AWP.rE; (focus (simp [go_sem]; exact ⟨rfl, rfl⟩)); try dsimp only [thn, inBlk])
      | fail)
    have ok2 := feed_ok okt ps[j]
    generalize t.feed ps[j] = t2 at *
    have k7 := pty_mk k6.b5.b5.b5.b5
    have ci := k6.obj
    have sr := k6.b4.ob_bytes.str (P := Try.prog) (t := 25) (e := 5) (u := 9) Try.underlying25 Try.underlying5 Try.underlying9
    have sr2 := k6.b6.ob_bytes.str (P := Try.prog) (t := 25) (e := 5) (u := 9) Try.underlying25 Try.underlying5 Try.underlying9
    have sr3 := (hx k6).str (P := Try.prog) (t := 25) (e := 5) (u := 9) Try.underlying25 Try.underlying5 Try.underlying9
    refine AWP.draw hmix [.n 0 [8], .n 1 [44], .n 2 [10], .n 3 [45, 46], .n 4 [47], .n 5 [9, 48], .n 6 [11, 48], .w 7 [49, 50, 48] [], .n 8 [51, 48], .n 9 [48, 52], .n 10 [53], .n 11 [3, 54], .n 13 [4, 54], .n 14 [57, 54], .n 15 [58, 54], .n 16 [59, 54], .w 12 [55, 54] [16], .n 17 [56, 60, 54], .n 18 [54, 61], .n 19 [62], .n 20 [3, 63], .n 22 [4, 63], .n 23 [66, 63], .n 24 [67, 63], .n 25 [68, 63], .w 21 [64, 63] [25], .n 26 [65, 69, 63], .n 27 [63, 70], .n 28 [71], .n 29 [7, 72], .n 30 [73, 72], .n 31 [6, 72], .n 32 [75, 72], .n 33 [74, 76, 72], .n 34 [72, 77]] (by kernel_rfl) ?_
    refine awpD_callR 7 (by rfl) (by rfl) (by simp [go_sem, sr]; exact ⟨rfl, rfl, rfl⟩) (by rfl) (by rfl) (by simp [go_sem]) (by simp [go_sem, sr]; exact ⟨rfl, rfl⟩) (by kernel_rfl) ?_
    refine (same_calls (xs := t2.lines) (ys := t2.lines) k6.b5.os_sl k6.b1.os_sl (by have := ok2.lines; omega)).mono ?_
    rintro r h7 ⟨rfl, rfl⟩
    refine ⟨by simp [still], ?_⟩
    refine awpD_callR 8 (by rfl) (by rfl) (by simp [go_sem, ci]; exact ⟨rfl, rfl, rfl⟩) (by rfl) (by rfl) (by simp [go_sem]) (by simp [go_sem, ci]; exact ⟨rfl, rfl⟩) (by kernel_rfl) ?_
    refine (line_calls k7).mono ?_
    rintro r h8 ⟨rfl, rfl⟩
    refine ⟨by simp [still, go_sem, ci], ?_⟩
    refine awpD_callR 8 (by rfl) (by rfl) (by simp [go_sem, ci, T]; exact ⟨rfl, rfl, rfl⟩) (by rfl) (by rfl) (by simp [go_sem]) (by simp [go_sem, ci, T]; exact ⟨rfl, rfl⟩) (by kernel_rfl) ?_
    refine (stops_calls k7).mono ?_
    rintro r h9 ⟨rfl, rfl⟩
    refine ⟨by simp [still, go_sem, ci], ?_⟩
    refine awpD_restR (by rfl) (by simp [go_sem, sr2, sr3]; exact ⟨rfl, rfl, rfl⟩) ?_; try dsimp only [thn, inBlk]
    (repeat' first
      | refine AWP.seq ?_
      | refine AWP.block ?_
      | (refine AWP.skip ?_; try dsimp only [thn, inBlk])
      | (refine AWP.exit ?_; try simp only [thn, inBlk, if_true])
      | (refine AWP.ret ?_; try dsimp only [thn, inBlk])
      | (refine AWP.condT ?_ ?_; (focus (simp [go_sem]; done)))
      | (refine AWP.condF ?_ ?_; (focus (simp [go_sem]; done)))
      | (apply AWP.rE; (focus (simp [go_sem]; exact ⟨rfl, rfl⟩)); try dsimp only [thn, inBlk])
      | fail)
    have k8 := k6.b5.b5.b5.b5.b2
    refine AWP.loopR [3, 4, 8, 9, 23, 24, 25, 80, 81] (fun m s' h' => ∃ (d : Nat) (bs' : List UInt8), d ≤ t2.shown.length ∧ bs'.length = t2.shown.length ∧ m = t2.shown.length - d ∧
      s' = ⟨98, [(3, ptr i), (4, ptr im), (8, .slice aw t2.shown.length cw), (9, .slice an t2.lines.length cn), (23, .slice va ps.length vc), (24, .int .i64 ps.length), (25, .int .i64 j), (80, .int .i64 t2.shown.length), (81, .int .i64 d)]⟩ ∧
      Own h.asOld h' [ob 5 (.slice aw t2.shown.length cw) bs', cell i (prow vl t2.entered t2.stops (.slice aw t2.shown.length cw) (.slice an t2.lines.length cn)), ob 5 vl t2.line, os 9 1 (.slice an t2.lines.length cn) t2.lines.length (t2.lines.map T), cell im (rrow t2 last2)]) ?_ ?_
    · exact ⟨_, 0, t2.shown, by omega, rfl, rfl, by simp [go_sem], k8.d6.d5⟩
    rintro m s' h' ⟨d, bs', hd, hbl, rfl, rfl, kd⟩
    have hsh := ok2.shown
    have hli := ok2.lines
    by_cases hd2 : d < t2.shown.length
    · have hd3 : (d : Int) < t2.shown.length := by omega
      have wd : IntKind.i64.wrap ((d : Int) + 1) = d + 1 := wI64 (by omega) (by omega)
      obtain ⟨xi, xo, xc, xt, p1, p2, p3, kd2⟩ := kd.ob_write (P := Try.prog) (t := 25) Try.underlying25 tsz5 (j := d) (by omega) 238 (kd := .i64)
      have p3 : xo + 1 ≤ xc.length := p3
      (repeat' first
        | refine AWP.seq ?_
        | refine AWP.block ?_
        | (refine AWP.skip ?_; try dsimp only [thn, inBlk])
        | (refine AWP.exit ?_; try simp only [thn, inBlk, if_true])
        | (refine AWP.ret ?_; try dsimp only [thn, inBlk])
        | (refine AWP.condT ?_ ?_; (focus (simp [go_sem, hd3, p1, p2, p3, wd]; done)))
        | (refine AWP.condF ?_ ?_; (focus (simp [go_sem, hd3, p1, p2, p3, wd]; done)))
        | (apply AWP.rE; (focus (simp [go_sem, hd3, p1, p2, p3, wd]; exact ⟨rfl, rfl⟩)); try dsimp only [thn, inBlk])
        | fail)
      exact ⟨t2.shown.length - (d + 1), by omega, d + 1, bs'.set d 238, by omega, by simp [hbl], rfl, by simp [go_sem], kd2⟩
    have hd3 : ¬ (d : Int) < t2.shown.length := by omega
    obtain rfl : d = t2.shown.length := by omega
    (repeat' first
      | refine AWP.seq ?_
      | refine AWP.block ?_
      | (refine AWP.skip ?_; try dsimp only [thn, inBlk])
      | (refine AWP.exit ?_; try simp only [thn, inBlk, if_true])
      | (refine AWP.ret ?_; try dsimp only [thn, inBlk])
      | (refine AWP.condT ?_ ?_; (focus (simp [go_sem, hd3]; done)))
      | (refine AWP.condF ?_ ?_; (focus (simp [go_sem, hd3]; done)))
      | (apply AWP.rE; (focus (simp [go_sem, hd3]; exact ⟨rfl, rfl⟩)); try dsimp only [thn, inBlk])
      | fail)
    refine AWP.loopR [3, 4, 9, 23, 24, 25, 89, 90] (fun m s' h' => ∃ (d : Nat) (ls : List (List UInt8)), d ≤ t2.lines.length ∧ ls.length = t2.lines.length ∧ m = t2.lines.length - d ∧
      s' = ⟨98, [(3, ptr i), (4, ptr im), (9, .slice an t2.lines.length cn), (23, .slice va ps.length vc), (24, .int .i64 ps.length), (25, .int .i64 j), (89, .int .i64 t2.lines.length), (90, .int .i64 d)]⟩ ∧
      Own h.asOld h' [os 9 1 (.slice an t2.lines.length cn) t2.lines.length (ls.map T), ob 5 (.slice aw t2.shown.length cw) bs', cell i (prow vl t2.entered t2.stops (.slice aw t2.shown.length cw) (.slice an t2.lines.length cn)), ob 5 vl t2.line, cell im (rrow t2 last2)]) ?_ ?_
    · exact ⟨_, 0, t2.lines, by omega, rfl, rfl, by simp [go_sem], kd.b3⟩
    rintro m s' h' ⟨d, ls, hd, hll, rfl, rfl, kl⟩
    by_cases hd2 : d < t2.lines.length
    · have hd3 : (d : Int) < t2.lines.length := by omega
      have wd : IntKind.i64.wrap ((d : Int) + 1) = d + 1 := wI64 (by omega) (by omega)
      obtain ⟨xi, xo, xc, xt, p1, p2, p3, kl2⟩ := Own.ts_write hll.symm kl (P := Try.prog) (t := 26) Try.underlying26 tsz9 (j := d) (by omega) [63] (kd := .i64)
      have p3 : xo + 1 ≤ xc.length := p3
      (repeat' first
        | refine AWP.seq ?_
        | refine AWP.block ?_
        | (refine AWP.skip ?_; try dsimp only [thn, inBlk])
        | (refine AWP.exit ?_; try simp only [thn, inBlk, if_true])
        | (refine AWP.ret ?_; try dsimp only [thn, inBlk])
        | (refine AWP.condT ?_ ?_; (focus (simp [go_sem, hd3, p1, p2, p3, wd]; done)))
        | (refine AWP.condF ?_ ?_; (focus (simp [go_sem, hd3, p1, p2, p3, wd]; done)))
        | (apply AWP.rE; (focus (simp [go_sem, hd3, p1, p2, p3, wd]; exact ⟨rfl, rfl⟩)); try dsimp only [thn, inBlk])
        | fail)
      exact ⟨t2.lines.length - (d + 1), by omega, d + 1, ls.set d [63], by omega, by simp [hll], rfl, by simp [go_sem], kl2⟩
    have hd3 : ¬ (d : Int) < t2.lines.length := by omega
    obtain rfl : d = t2.lines.length := by omega
    (repeat' first
      | refine AWP.seq ?_
      | refine AWP.block ?_
      | (refine AWP.skip ?_; try dsimp only [thn, inBlk])
      | (refine AWP.exit ?_; try simp only [thn, inBlk, if_true])
      | (refine AWP.ret ?_; try dsimp only [thn, inBlk])
      | (refine AWP.condT ?_ ?_; (focus (simp [go_sem, hd3, w1]; done)))
      | (refine AWP.condF ?_ ?_; (focus (simp [go_sem, hd3, w1]; done)))
      | (apply AWP.rE; (focus (simp [go_sem, hd3, w1]; exact ⟨rfl, rfl⟩)); try dsimp only [thn, inBlk])
      | fail)
    have kf := kl.b3.b3.b3
    refine ⟨ps.length - (j + 1), by omega, j + 1, im, { t2 with shown := bs', lines := ls }, last2, by omega, rfl, by simp [go_sem], hlast2, ?_, ?_⟩
    · rw [hfl]
      obtain ⟨z1, z2, z3, z4⟩ := ok2
      exact ⟨z1, by simp only [hbl]; omega, by simp only [hll]; omega, by show t2.stops ≤ _; omega⟩
    · rw [← hll] at kf
      exact pty_mk (s := { t2 with shown := bs', lines := ls }) kf.b2.b2
end L21
