import Derived.Test.YtledpicaoeffjaaL21e
open Go Ab Go.Proofs
namespace L21
set_option autoImplicit false
set_option linter.unusedSimpArgs false
set_option linter.unusedVariables false

/-- What was shown ahead. -/
def Pt.pre (A : List UInt8) (L : List (List UInt8)) (s : Pt) : Pt := { s with shown := A ++ s.shown, lines := L ++ s.lines }

theorem key_pre (A : List UInt8) (L : List (List UInt8)) (c : UInt8) (s : Pt) : Pt.key c (s.pre A L) = (Pt.key c s).pre A L := by
  unfold Pt.key Pt.pre Pt.enter Pt.rub Pt.kill Pt.stop Pt.plain
  simp only []
  repeat' split
  all_goals first | rfl | simp_all

theorem run_pre (A : List UInt8) (L : List (List UInt8)) (bs : List UInt8) : ∀ s : Pt, Pt.run bs (s.pre A L) = (Pt.run bs s).pre A L := by
  induction bs with
  | nil => intro s; rfl
  | cons c bs ih => intro s; simp only [Pt.run, List.foldl_cons] at ih ⊢; rw [key_pre]; exact ih _

theorem run_append (a b : List UInt8) (s : Pt) : Pt.run (a ++ b) s = Pt.run b (Pt.run a s) := by simp [Pt.run]

theorem run_feed (bs : List UInt8) (s t : Pt) (h1 : s.line = t.line) (h2 : s.entered = t.entered) (h3 : s.stops = t.stops) : Pt.run bs t = (s.feed bs).pre t.shown t.lines := by
  have e : t = Pt.pre t.shown t.lines { s with shown := [], lines := [] } := by
    obtain ⟨a, b, c, d, e⟩ := t
    simp only [Pt.pre] at *
    simp [h1, h2, h3]
  rw [Pt.feed, ← run_pre, ← e]

theorem run_ok {s : Pt} {n : Nat} (h : s.ok n) (bs : List UInt8) : (Pt.run bs s).ok (n + 240 * bs.length) := by
  induction bs generalizing s n with
  | nil => exact h
  | cons c l ih =>
    have := ih (h.key c)
    simp only [Pt.run, List.foldl_cons, List.length_cons] at this ⊢
    rw [show n + 240 * (l.length + 1) = n + 240 + 240 * l.length by omega]; exact this

set_option maxHeartbeats 2000000 in
theorem pieces_calls {h : AHeap} {v : Value} {ps : List (List UInt8)} (hb : h.base = h.next) (hp : Pcs h v ps) (hl : ps.length ≤ 9223372036854775807) :
    ACalls Try.prog 6 #[v] h fun r _ => r = .bool true := by
  refine Own.of_wf fun k0 => ?_
  obtain ⟨va, vc, rfl⟩ := hp.val
  refine ACalls.of_awp (args := [.slice va ps.length vc]) (n := 80) Try.func6 rfl rfl (by show 1 ≤ 80; omega) ?_
  (repeat' first
    | refine AWP.seq ?_
    | refine AWP.block ?_
    | (refine AWP.skip ?_; try dsimp only [thn, inBlk])
    | (refine AWP.exit ?_; try simp only [thn, inBlk, if_true])
    | (refine AWP.ret ?_; try dsimp only [thn, inBlk])
    | (refine AWP.condT ?_ ?_; (focus (simp [go_sem]; done)))
    | (refine AWP.condF ?_ ?_; (focus (simp [go_sem]; done)))
    | (apply AWP.rE; (focus (simp [go_sem]; exact ⟨rfl, rfl⟩)); try dsimp only [thn, inBlk])
    | fail)
  refine AWP.callE (by simp [go_sem]; exact ⟨rfl, rfl, rfl, rfl, rfl⟩) (by kernel_rfl) ?_
  refine (speaks_calls k0).mono ?_
  rintro r h1 ⟨rfl, k1⟩
  refine awpL_restE (by simp [go_sem]; exact ⟨rfl, rfl⟩) ?_; try dsimp only [thn, inBlk]
  (repeat' first
    | refine AWP.seq ?_
    | refine AWP.block ?_
    | (refine AWP.skip ?_; try dsimp only [thn, inBlk])
    | (refine AWP.exit ?_; try simp only [thn, inBlk, if_true])
    | (refine AWP.ret ?_; try dsimp only [thn, inBlk])
    | (refine AWP.condT ?_ ?_; (focus (simp [go_sem]; done)))
    | (refine AWP.condF ?_ ?_; (focus (simp [go_sem]; done)))
    | (apply AWP.rE; (focus (simp [go_sem]; exact ⟨rfl, rfl⟩)); try dsimp only [thn, inBlk])
    | fail)
  refine AWP.callE (by simp [go_sem]; exact ⟨rfl, rfl, rfl, rfl, rfl⟩) (by kernel_rfl) ?_
  refine (great_calls (hp.of_old hb k1) hl).mono ?_
  rintro r h2 ⟨g, rfl, rfl, hg⟩
  cases g
  rotate_left
  · refine awpL_restE (by simp [go_sem]; exact ⟨rfl, rfl⟩) ?_; try dsimp only [thn, inBlk]
    (repeat' first
      | refine AWP.seq ?_
      | refine AWP.block ?_
      | (refine AWP.skip ?_; try dsimp only [thn, inBlk])
      | (refine AWP.exit ?_; try simp only [thn, inBlk, if_true])
      | (refine AWP.ret ?_; try dsimp only [thn, inBlk])
      | (refine AWP.condT ?_ ?_; (focus (simp [go_sem]; done)))
      | (refine AWP.condF ?_ ?_; (focus (simp [go_sem]; done)))
      | (apply AWP.rE; (focus (simp [go_sem]; exact ⟨rfl, rfl⟩)); try dsimp only [thn, inBlk])
      | fail)
    simp [bodyQ, thn, inBlk, resA, resV, go_sem]
  have hg := hg rfl
  refine awpL_restE (by simp [go_sem]; exact ⟨rfl, rfl⟩) ?_; try dsimp only [thn, inBlk]
  (repeat' first
    | refine AWP.seq ?_
    | refine AWP.block ?_
    | (refine AWP.skip ?_; try dsimp only [thn, inBlk])
    | (refine AWP.exit ?_; try simp only [thn, inBlk, if_true])
    | (refine AWP.ret ?_; try dsimp only [thn, inBlk])
    | (refine AWP.condT ?_ ?_; (focus (simp [go_sem]; done)))
    | (refine AWP.condF ?_ ?_; (focus (simp [go_sem]; done)))
    | (apply AWP.rE; (focus (simp [go_sem]; exact ⟨rfl, rfl⟩)); try dsimp only [thn, inBlk])
    | fail)
  refine AWP.callE (by simp [go_sem]; exact ⟨rfl, rfl, rfl, rfl, rfl⟩) (by kernel_rfl) ?_
  refine (new_calls k1).mono ?_
  rintro r h3 ⟨i, rfl, k2⟩
  refine awpL_toCall (by simp [go_sem]; exact ⟨rfl, rfl, rfl, rfl, rfl⟩) (by kernel_rfl) ?_
  refine (new_calls k2).mono ?_
  rintro r h4 ⟨iq, rfl, k3⟩
  refine awpL_restE (by simp [go_sem]; exact ⟨rfl, rfl⟩) ?_; try dsimp only [thn, inBlk]
  (repeat' first
    | refine AWP.seq ?_
    | refine AWP.block ?_
    | (refine AWP.skip ?_; try dsimp only [thn, inBlk])
    | (refine AWP.exit ?_; try simp only [thn, inBlk, if_true])
    | (refine AWP.ret ?_; try dsimp only [thn, inBlk])
    | (refine AWP.condT ?_ ?_; (focus (simp [go_sem]; done)))
    | (refine AWP.condF ?_ ?_; (focus (simp [go_sem]; done)))
    | (apply AWP.rE; (focus (simp [go_sem]; exact ⟨rfl, rfl⟩)); try dsimp only [thn, inBlk])
    | fail)
  have k4 := (((k3.push (.row [] 5 1 true false)).os_mk (n := 0) (cap := 0) (off := 0) (cs := []) (by omega) (by simp) (by simp)).push (.row [] 9 1 true false)).os_mk (n := 0) (cap := 0) (off := 0) (cs := []) (by omega) (by simp) (by simp)
  obtain ⟨cs, sl, hcs⟩ := hp
  refine AWP.loopR [3, 4, 5, 6, 7, 28, 29, 30] (fun m s' h' => ∃ (j : Nat) (tp : Pt) (aa : Option Addr) (ac : Nat) (la : Option Addr) (lc : Nat), j ≤ ps.length ∧ m = ps.length - j ∧
    s' = ⟨80, [(3, ptr i), (4, ptr iq), (5, .slice aa ((ps.take j).flatten).length ac), (6, .string ⟨(Pt.run ((ps.take j).flatten) ⟨[], false, 0, [], []⟩).shown.toArray⟩), (7, .slice la (Pt.run ((ps.take j).flatten) ⟨[], false, 0, [], []⟩).lines.length lc), (28, .slice va ps.length vc), (29, .int .i64 ps.length), (30, .int .i64 j)]⟩ ∧
    tp.line = (Pt.run ((ps.take j).flatten) ⟨[], false, 0, [], []⟩).line ∧ tp.entered = (Pt.run ((ps.take j).flatten) ⟨[], false, 0, [], []⟩).entered ∧ tp.stops = (Pt.run ((ps.take j).flatten) ⟨[], false, 0, [], []⟩).stops ∧
    tp.ok (240 * ((ps.take j).flatten).length) ∧ Own h.asOld h' [pty i tp, ob 5 (.slice aa ((ps.take j).flatten).length ac) ((ps.take j).flatten),
      os 9 1 (.slice la (Pt.run ((ps.take j).flatten) ⟨[], false, 0, [], []⟩).lines.length lc) (Pt.run ((ps.take j).flatten) ⟨[], false, 0, [], []⟩).lines.length ((Pt.run ((ps.take j).flatten) ⟨[], false, 0, [], []⟩).lines.map T), pty iq ⟨[], false, 0, [], []⟩]) ?_ ?_
  · exact ⟨_, 0, ⟨[], false, 0, [], []⟩, some ⟨h4.next, 0, none⟩, 0, some ⟨h4.next + 1, 0, none⟩, 0, by omega, rfl, by simp [go_sem, Pt.run], rfl, rfl, rfl, ⟨by simp, by simp, by simp, by simp⟩, k4.b1.b3⟩
  rintro m s' h' ⟨j, tp, aa, ac, la, lc, hj, rfl, rfl, t1, t2, t3, okt, kt⟩
  by_cases hj2 : j < ps.length
  · have hj3 : (j : Int) < ps.length := by omega
    have w1 : IntKind.i64.wrap ((j : Int) + 1) = j + 1 := wI64 (by omega) (by omega)
    have hfe : (ps.take (j + 1)).flatten = (ps.take j).flatten ++ ps[j] := by
      rw [List.take_succ_eq_append_getElem hj2, List.flatten_append]; simp
    have hfl2 : ((ps.take (j + 1)).flatten).length ≤ 2000 := by
      have e : ps.flatten = (ps.take (j + 1)).flatten ++ (ps.drop (j + 1)).flatten := by rw [← List.flatten_append, List.take_append_drop]
      rw [e, List.length_append] at hg; omega
    rw [hfe, List.length_append] at hfl2
    have hrun : Pt.run ((ps.take (j + 1)).flatten) ⟨[], false, 0, [], []⟩ = (tp.feed ps[j]).pre (Pt.run ((ps.take j).flatten) ⟨[], false, 0, [], []⟩).shown (Pt.run ((ps.take j).flatten) ⟨[], false, 0, [], []⟩).lines := by
      rw [hfe, run_append]; exact run_feed _ _ _ t1 t2 t3
    have okr : (Pt.run ((ps.take j).flatten) ⟨[], false, 0, [], []⟩).ok (240 * ((ps.take j).flatten).length) := by
      have := run_ok (s := ⟨[], false, 0, [], []⟩) (n := 0) ⟨by simp, by simp, by simp, by simp⟩ ((ps.take j).flatten)
      simpa using this
    obtain ⟨pa, pc, ee, bb⟩ := hcs j hj2
    obtain ⟨bi, bo, c, e', sz, ti, ro, q1, q2, q3⟩ := (sl.of_old hb kt).at1 (P := Try.prog) (t := 33) Try.underlying33 tsz25 hj2 ee (kd := .i64)
    have hx : ∀ {hh : AHeap} {L : List Chunk}, Own h.asOld hh L → Bytes hh (.slice pa ps[j].length pc) ps[j] := fun o => bb.of_old hb o
    generalize hal : (ps.take j).flatten = al at *
    generalize hrn : Pt.run al ⟨[], false, 0, [], []⟩ = rn at *
    (repeat' first
      | refine AWP.seq ?_
      | refine AWP.block ?_
      | (refine AWP.skip ?_; try dsimp only [thn, inBlk])
      | (refine AWP.exit ?_; try simp only [thn, inBlk, if_true])
      | (refine AWP.ret ?_; try dsimp only [thn, inBlk])
      | (refine AWP.condT ?_ ?_; (focus (simp [go_sem, hj3, q1, q2, q3]; done)))
      | (refine AWP.condF ?_ ?_; (focus (simp [go_sem, hj3, q1, q2, q3]; done)))
      | (apply AWP.rE; (focus (simp [go_sem, hj3, q1, q2, q3]; exact ⟨rfl, rfl⟩)); try dsimp only [thn, inBlk])
      | fail)
    refine AWP.callE (by simp [go_sem]; exact ⟨rfl, rfl, rfl, rfl, rfl⟩) (by kernel_rfl) ?_
    refine (feed_calls (bs := ps[j]) kt (fun h k => hx k) okt (by omega)).mono ?_
    rintro r h5 ⟨vl, aw, cw, an, cn, rfl, k5⟩
    refine awpL_restE (by simp [go_sem]; exact ⟨rfl, rfl⟩) ?_; try dsimp only [thn, inBlk]
    have ok2 := feed_ok okt ps[j]
    have hsh := okr.shown
    have hsh2 := ok2.shown
    have hli := okr.lines
    have hli2 := ok2.lines
    generalize htf : tp.feed ps[j] = tf at *
    obtain ⟨a2, c2, h6, e1, k6⟩ := k5.b4.appB (P := Try.prog) (t := 25) (xt := 25) Try.underlying25 tsz5 tby5 tz5 nI25 (hx k5).src (by omega)
    obtain ⟨v3, h7, e2, k7⟩ := k6.b5.app (P := Try.prog) (t := 26) (xt := 26) (m := tf.lines.length) (xs := tf.lines.map T) (xv := .slice an tf.lines.length cn) Try.underlying26 tsz9 tby9 tz9 nI26 (by omega) (by omega) rfl (k6.b4.os_sl).src (by simp) (all_okCell_map T (fun _ => rfl) _) (by omega)
    obtain ⟨a3, c3, rfl⟩ := k7.os_val
    have sr := k5.b2.ob_bytes.str (P := Try.prog) (t := 25) (e := 5) (u := 9) Try.underlying25 Try.underlying5 Try.underlying9
    have sr2 := k6.b3.ob_bytes.str (P := Try.prog) (t := 25) (e := 5) (u := 9) Try.underlying25 Try.underlying5 Try.underlying9
    have sr3 := k7.b4.ob_bytes.str (P := Try.prog) (t := 25) (e := 5) (u := 9) Try.underlying25 Try.underlying5 Try.underlying9
    have hs : rn.shown.length + tf.shown.length ≤ 9223372036854775807 := by omega
    (repeat' first
      | refine AWP.seq ?_
      | refine AWP.block ?_
      | (refine AWP.skip ?_; try dsimp only [thn, inBlk])
      | (refine AWP.exit ?_; try simp only [thn, inBlk, if_true])
      | (refine AWP.ret ?_; try dsimp only [thn, inBlk])
      | (refine AWP.condT ?_ ?_; (focus (simp [go_sem]; done)))
      | (refine AWP.condF ?_ ?_; (focus (simp [go_sem]; done)))
      | (apply AWP.rE; (focus (simp [go_sem]; exact ⟨rfl, rfl⟩)); try dsimp only [thn, inBlk])
      | fail)
    refine AWP.draw hmix [.n 0 [5], .n 1 [9], .n 3 [6], .n 4 [10], .n 5 [44], .n 6 [43, 45], .n 7 [7], .n 8 [11], .w 2 [40, 41] [5], .w 9 [47, 48] [5], .n 10 [42], .n 11 [46], .n 12 [49]] (by kernel_rfl) ?_
    refine awpD_writeR 8 (by rfl) (by rfl) (by simp [go_sem, sr, e1, sr2, hs]; exact ⟨rfl, rfl, rfl⟩) (by rfl) (by rfl) (by simp [go_sem]) (by simp [go_sem, sr, e1, sr2, hs]; exact ⟨rfl, rfl⟩) (by simp [still, go_sem, sr, e1, sr2, hs]) ?_
    refine awpD_writeR 0 (by rfl) (by rfl) (by simp [go_sem, e2, sr3, sr, hs]; exact ⟨rfl, rfl, rfl⟩) (by rfl) (by rfl) (by simp [go_sem]) (by simp [go_sem, e2, sr3, sr, hs]; exact ⟨rfl, rfl⟩) (by simp [still, go_sem, e2, sr3, sr, hs]) ?_
    refine awpD_restR (by rfl) (by simp [go_sem, hs]; exact ⟨rfl, rfl, rfl⟩) ?_; try dsimp only [thn, inBlk]
    (repeat' first
      | refine AWP.seq ?_
      | refine AWP.block ?_
      | (refine AWP.skip ?_; try dsimp only [thn, inBlk])
      | (refine AWP.exit ?_; try simp only [thn, inBlk, if_true])
      | (refine AWP.ret ?_; try dsimp only [thn, inBlk])
      | (refine AWP.condT ?_ ?_; (focus (simp [go_sem, w1]; done)))
      | (refine AWP.condF ?_ ?_; (focus (simp [go_sem, w1]; done)))
      | (apply AWP.rE; (focus (simp [go_sem, w1]; exact ⟨rfl, rfl⟩)); try dsimp only [thn, inBlk])
      | fail)
    have hk := k7.b4.b4.b4.b5.b5
    refine ⟨ps.length - (j + 1), by omega, j + 1, tf, a2, c2, a3, c3, by omega, rfl, ?_, ?_, ?_, ?_, ?_, ?_⟩
    · rw [hrun, hfe]
      simp [go_sem, Pt.pre]
    · rw [hrun]; rfl
    · rw [hrun]; rfl
    · rw [hrun]; rfl
    · rw [hfe, List.length_append, Nat.mul_add]; exact ok2
    · rw [hrun, hfe]
      simpa [Pt.pre] using (pty_mk k7.b5.b5.b5.b5).b2.b1
  have hj3 : ¬ (j : Int) < ps.length := by omega
  obtain rfl : j = ps.length := by omega
  rw [List.take_length] at *
  generalize hal : ps.flatten = al at *
  (repeat' first
    | refine AWP.seq ?_
    | refine AWP.block ?_
    | (refine AWP.skip ?_; try dsimp only [thn, inBlk])
    | (refine AWP.exit ?_; try simp only [thn, inBlk, if_true])
    | (refine AWP.ret ?_; try dsimp only [thn, inBlk])
    | (refine AWP.condT ?_ ?_; (focus (simp [go_sem, hj3]; done)))
    | (refine AWP.condF ?_ ?_; (focus (simp [go_sem, hj3]; done)))
    | (apply AWP.rE; (focus (simp [go_sem, hj3]; exact ⟨rfl, rfl⟩)); try dsimp only [thn, inBlk])
    | fail)
  refine AWP.callE (by simp [go_sem]; exact ⟨rfl, rfl, rfl, rfl, rfl⟩) (by kernel_rfl) ?_
  refine (feed_calls (n := 0) (bs := al) kt.b3 (fun h k => k.b1.ob_bytes) ⟨by simp, by simp, by simp, by simp⟩ (by omega)).mono ?_
  rintro r h5 ⟨vl, aw, cw, an, cn, rfl, k5⟩
  refine awpL_restE (by simp [go_sem]; exact ⟨rfl, rfl⟩) ?_; try dsimp only [thn, inBlk]
  have ef : Pt.feed al ⟨[], false, 0, [], []⟩ = Pt.run al ⟨[], false, 0, [], []⟩ := rfl
  rw [ef] at k5 ⊢
  have okr := run_ok (s := ⟨[], false, 0, [], []⟩) (n := 0) ⟨by simp, by simp, by simp, by simp⟩ al
  have hli := okr.lines
  generalize hrn : Pt.run al ⟨[], false, 0, [], []⟩ = rn at *
  have sr := k5.b2.ob_bytes.str (P := Try.prog) (t := 25) (e := 5) (u := 9) Try.underlying25 Try.underlying5 Try.underlying9
  have k6 := pty_mk k5
  (repeat' first
    | refine AWP.seq ?_
    | refine AWP.block ?_
    | (refine AWP.skip ?_; try dsimp only [thn, inBlk])
    | (refine AWP.exit ?_; try simp only [thn, inBlk, if_true])
    | (refine AWP.ret ?_; try dsimp only [thn, inBlk])
    | (refine AWP.condT ?_ ?_; (focus (simp [go_sem]; done)))
    | (refine AWP.condF ?_ ?_; (focus (simp [go_sem]; done)))
    | (apply AWP.rE; (focus (simp [go_sem]; exact ⟨rfl, rfl⟩)); try dsimp only [thn, inBlk])
    | fail)
  refine AWP.callE (by simp [go_sem, sr]; exact ⟨rfl, rfl, rfl, rfl, rfl⟩) (by kernel_rfl) ?_
  refine (same_calls (xs := rn.lines) (ys := rn.lines) k5.b3.os_sl k5.b6.os_sl (by omega)).mono ?_
  rintro r h6 ⟨rfl, rfl⟩
  refine awpL_toCall (by simp [go_sem, sr]; exact ⟨rfl, rfl, rfl, rfl, rfl⟩) (by kernel_rfl) ?_
  refine (line_calls k6.b1).mono ?_
  rintro r h6 ⟨rfl, rfl⟩
  refine awpL_toCall (by simp [go_sem, sr]; exact ⟨rfl, rfl, rfl, rfl, rfl⟩) (by kernel_rfl) ?_
  refine (line_calls k6).mono ?_
  rintro r h6 ⟨rfl, rfl⟩
  refine awpL_toCall (by simp [go_sem, sr, t1]; exact ⟨rfl, rfl, rfl, rfl, rfl⟩) (by kernel_rfl) ?_
  refine (stops_calls k6.b1).mono ?_
  rintro r h6 ⟨rfl, rfl⟩
  refine awpL_toCall (by simp [go_sem, sr, t1]; exact ⟨rfl, rfl, rfl, rfl, rfl⟩) (by kernel_rfl) ?_
  refine (stops_calls k6).mono ?_
  rintro r h6 ⟨rfl, rfl⟩
  refine awpL_restE (by simp [go_sem, t3]; exact ⟨rfl, rfl⟩) ?_; try dsimp only [thn, inBlk]
  (repeat' first
    | refine AWP.seq ?_
    | refine AWP.block ?_
    | (refine AWP.skip ?_; try dsimp only [thn, inBlk])
    | (refine AWP.exit ?_; try simp only [thn, inBlk, if_true])
    | (refine AWP.ret ?_; try dsimp only [thn, inBlk])
    | (refine AWP.condT ?_ ?_; (focus (simp [go_sem]; done)))
    | (refine AWP.condF ?_ ?_; (focus (simp [go_sem]; done)))
    | (apply AWP.rE; (focus (simp [go_sem]; exact ⟨rfl, rfl⟩)); try dsimp only [thn, inBlk])
    | fail)
  simp [bodyQ, thn, inBlk, resA, resV, go_sem]
end L21
