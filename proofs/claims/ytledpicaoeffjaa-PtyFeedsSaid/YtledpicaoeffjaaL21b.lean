import Derived.Test.YtledpicaoeffjaaL21a
open Go Ab Go.Proofs
namespace L21
set_option autoImplicit false
set_option linter.unusedSimpArgs false
set_option linter.unusedVariables false

theorem new_calls {O : Old} {h : AHeap} {R : List Chunk} (k : Own O h R) : ACalls Try.prog 8 #[] h fun r h' => ∃ i, r = ptr i ∧ Own O h' (pty i ⟨[], false, 0, [], []⟩ :: R) := by
  refine ACalls.of_awp (args := []) (n := 3) Try.func8 rfl rfl (by show 0 ≤ 3; omega) ?_
  have k1 := k.push (prow (.slice none 0 0) false 0 (.slice none 0 0) (.slice none 0 0))
  (repeat' first
    | refine AWP.seq ?_
    | refine AWP.block ?_
    | (refine AWP.skip ?_; try dsimp only [thn, inBlk])
    | (refine AWP.exit ?_; try simp only [thn, inBlk, if_true])
    | (refine AWP.ret ?_; try dsimp only [thn, inBlk])
    | (refine AWP.condT ?_ ?_; (focus (simp [go_sem]; done)))
    | (refine AWP.condF ?_ ?_; (focus (simp [go_sem]; done)))
    | (apply AWP.rE; (focus (simp [go_sem]; exact ⟨rfl, rfl⟩)); try dsimp only [thn, inBlk])
    | fail)
  simp [bodyQ, thn, inBlk, resA, resV, go_sem]
  exact pty_mk (s := ⟨[], false, 0, [], []⟩) (((((k1.nil 9 1).b1).nil 5 1).b1).nil 5 1).b1

def Pt.run (bs : List UInt8) (s : Pt) : Pt := bs.foldl (fun s c => Pt.key c s) s
def Pt.feed (bs : List UInt8) (s : Pt) : Pt := Pt.run bs { s with shown := [], lines := [] }
theorem Pt.run_snoc (bs : List UInt8) (c : UInt8) (s : Pt) : Pt.run (bs ++ [c]) s = Pt.key c (Pt.run bs s) := by simp [Pt.run]

theorem feed_ok {s : Pt} {n : Nat} (h : s.ok n) (bs : List UInt8) : (s.feed bs).ok (n + 240 * bs.length) := by
  have key : ∀ (l : List UInt8) (t : Pt) (m : Nat), t.ok m → (Pt.run l t).ok (m + 240 * l.length) := by
    intro l
    induction l with
    | nil => intro t m h; exact h
    | cons c l ih =>
      intro t m h
      have := ih (t.key c) (m + 240) (h.key c)
      simp only [Pt.run, List.foldl_cons, List.length_cons] at this ⊢
      rw [show m + 240 * (l.length + 1) = m + 240 + 240 * l.length by omega]; exact this
  exact key bs _ n ⟨h.line, by simp, by simp, h.stops⟩

theorem feed_calls {O : Old} {h : AHeap} {R : List Chunk} {i n : Nat} {s : Pt} {xv : Value} {bs : List UInt8} (k : Own O h (pty i s :: R)) (hx : ∀ h, Own O h R → Bytes h xv bs) (ok : s.ok n) (hn : n + 240 * bs.length ≤ 8000000) :
    ACalls Try.prog 9 #[ptr i, xv] h fun r h' => ∃ vl aw cw an cn, let t := s.feed bs
      r = .tuple #[.slice aw t.shown.length cw, .slice an t.lines.length cn] ∧ Own O h' (cell i (prow vl t.entered t.stops (.slice aw t.shown.length cw) (.slice an t.lines.length cn)) :: ob 5 vl t.line :: ob 5 (.slice aw t.shown.length cw) t.shown :: os 9 1 (.slice an t.lines.length cn) t.lines.length (t.lines.map T) :: R) := by
  obtain ⟨al, cl, aw, cw, an, cn, k1⟩ := pty_iff.1 k
  have c1 := k1.obj
  obtain ⟨xa, xc, rfl⟩ := (hx h k.tail).val
  refine ACalls.of_awp (args := [ptr i, .slice xa bs.length xc]) (n := 32) Try.func9 rfl rfl (by show 2 ≤ 32; omega) ?_
  have k2 := (k1.set (prow (.slice al s.line.length cl) s.entered s.stops (.slice none 0 0) (.slice an s.lines.length cn))).set (prow (.slice al s.line.length cl) s.entered s.stops (.slice none 0 0) (.slice none 0 0))
  have k3 := pty_mk (s := { s with shown := [], lines := [] }) (vl := .slice al s.line.length cl) (vs := .slice none 0 0) (vn := .slice none 0 0) ((((k2.d3.d2.nil 9 1).p2).nil 5 1).p2)
  (repeat' first
    | refine AWP.seq ?_
    | refine AWP.block ?_
    | (refine AWP.skip ?_; try dsimp only [thn, inBlk])
    | (refine AWP.exit ?_; try simp only [thn, inBlk, if_true])
    | (refine AWP.ret ?_; try dsimp only [thn, inBlk])
    | (refine AWP.condT ?_ ?_; (focus (simp [go_sem, c1]; done)))
    | (refine AWP.condF ?_ ?_; (focus (simp [go_sem, c1]; done)))
    | (apply AWP.rE; (focus (simp [go_sem, c1]; exact ⟨rfl, rfl⟩)); try dsimp only [thn, inBlk])
    | (apply AWP.dE hmix [.n 0 [0], .n 1 [24], .n 2 [25], .n 3 [26], .n 4 [0], .n 5 [28], .n 6 [29], .n 7 [30], .n 8 [27], .n 9 [31]]; (focus kernel_rfl); (focus (simp [go_sem, c1]; exact ⟨rfl, rfl⟩)); try dsimp only [thn, inBlk])
    | fail)
  refine AWP.loopR [0, 14, 15, 16] (fun m s' h' => ∃ j : Nat, j ≤ bs.length ∧ s' = ⟨32, [(0, ptr i), (14, .slice xa bs.length xc), (15, .int .i64 bs.length), (16, .int .i64 j)]⟩ ∧ m = bs.length - j ∧
      (Pt.run (bs.take j) { s with shown := [], lines := [] }).ok (n + 240 * j) ∧ Own O h' (pty i (Pt.run (bs.take j) { s with shown := [], lines := [] }) :: R)) ?_ ?_
  · exact ⟨_, 0, by omega, by simp [go_sem], rfl, ⟨ok.line, by simp [Pt.run], by simp [Pt.run], ok.stops⟩, k3⟩
  · rintro m s' h' ⟨j, hj, rfl, rfl, okt, kt⟩
    by_cases hj2 : j < bs.length
    · have hj3 : (j : Int) < bs.length := by omega
      obtain ⟨bi, bo, c, e', sz, ti, ro, q1, q2, q3⟩ := (hx h' kt.tail).at (P := Try.prog) (t := 25) Try.underlying25 tsz5 hj2 (kd := .i64)
      (repeat' first
        | refine AWP.seq ?_
        | refine AWP.block ?_
        | (refine AWP.skip ?_; try dsimp only [thn, inBlk])
        | (refine AWP.exit ?_; try simp only [thn, inBlk, if_true])
        | (refine AWP.ret ?_; try dsimp only [thn, inBlk])
        | (refine AWP.condT ?_ ?_; (focus (simp [go_sem, hj3, q1, q2, q3]; done)))
        | (refine AWP.condF ?_ ?_; (focus (simp [go_sem, hj3, q1, q2, q3]; done)))
        | (apply AWP.rE; (focus (simp [go_sem, hj3, q1, q2, q3]; exact ⟨rfl, rfl⟩)); try dsimp only [thn, inBlk])
        | (apply AWP.dE hmix [.n 0 [0], .n 1 [24], .n 2 [25], .n 3 [26], .n 4 [0], .n 5 [28], .n 6 [29], .n 7 [30], .n 8 [27], .n 9 [31]]; (focus kernel_rfl); (focus (simp [go_sem, hj3, q1, q2, q3]; exact ⟨rfl, rfl⟩)); try dsimp only [thn, inBlk])
        | fail)
      refine AWP.callE (by simp [go_sem]; exact ⟨rfl, rfl, rfl, rfl, rfl⟩) (by kernel_rfl) ?_
      refine (key_calls (c := bs[j]) kt okt (by omega)).mono ?_
      rintro r h2 k5
      refine awpL_restE (by simp [go_sem]; exact ⟨rfl, rfl⟩) ?_; try dsimp only [thn, inBlk]
      have w1 : IntKind.i64.wrap ((j : Int) + 1) = j + 1 := wI64 (by omega) (by omega)
      (repeat' first
        | refine AWP.seq ?_
        | refine AWP.block ?_
        | (refine AWP.skip ?_; try dsimp only [thn, inBlk])
        | (refine AWP.exit ?_; try simp only [thn, inBlk, if_true])
        | (refine AWP.ret ?_; try dsimp only [thn, inBlk])
        | (refine AWP.condT ?_ ?_; (focus (simp [go_sem, w1]; done)))
        | (refine AWP.condF ?_ ?_; (focus (simp [go_sem, w1]; done)))
        | (apply AWP.rE; (focus (simp [go_sem, w1]; exact ⟨rfl, rfl⟩)); try dsimp only [thn, inBlk])
        | (apply AWP.dE hmix [.n 0 [0], .n 1 [24], .n 2 [25], .n 3 [26], .n 4 [0], .n 5 [28], .n 6 [29], .n 7 [30], .n 8 [27], .n 9 [31]]; (focus kernel_rfl); (focus (simp [go_sem, w1]; exact ⟨rfl, rfl⟩)); try dsimp only [thn, inBlk])
        | fail)
      refine ⟨bs.length - (j + 1), by omega, j + 1, by omega, by simp [go_sem], rfl, ?_, ?_⟩
      · rw [List.take_succ_eq_append_getElem hj2, Pt.run_snoc]
        rw [show n + 240 * (j + 1) = n + 240 * j + 240 by omega]
        exact okt.key _
      · rw [List.take_succ_eq_append_getElem hj2, Pt.run_snoc]
        exact k5
    · have hj3 : ¬ (j : Int) < bs.length := by omega
      obtain rfl : j = bs.length := by omega
      rw [List.take_length] at kt
      obtain ⟨al, cl, aw, cw, an, cn, k4⟩ := pty_iff.1 kt
      have c2 := k4.obj
      (repeat' first
        | refine AWP.seq ?_
        | refine AWP.block ?_
        | (refine AWP.skip ?_; try dsimp only [thn, inBlk])
        | (refine AWP.exit ?_; try simp only [thn, inBlk, if_true])
        | (refine AWP.ret ?_; try dsimp only [thn, inBlk])
        | (refine AWP.condT ?_ ?_; (focus (simp [go_sem, hj3, c2]; done)))
        | (refine AWP.condF ?_ ?_; (focus (simp [go_sem, hj3, c2]; done)))
        | (apply AWP.rE; (focus (simp [go_sem, hj3, c2]; exact ⟨rfl, rfl⟩)); try dsimp only [thn, inBlk])
        | (apply AWP.dE hmix [.n 0 [0], .n 1 [24], .n 2 [25], .n 3 [26], .n 4 [0], .n 5 [28], .n 6 [29], .n 7 [30], .n 8 [27], .n 9 [31]]; (focus kernel_rfl); (focus (simp [go_sem, hj3, c2]; exact ⟨rfl, rfl⟩)); try dsimp only [thn, inBlk])
        | fail)
      simp [bodyQ, thn, inBlk, resA, resV, go_sem]
      exact ⟨_, _, _, _, _, ⟨⟨rfl, rfl, rfl⟩, rfl, rfl, rfl⟩, k4⟩

theorem line_calls {O : Old} {h : AHeap} {R : List Chunk} {i : Nat} {s : Pt} (k : Own O h (pty i s :: R)) : ACalls Try.prog 11 #[ptr i] h fun r h' => r = T s.line ∧ h' = h := by
  obtain ⟨al, cl, aw, cw, an, cn, k1⟩ := pty_iff.1 k
  have c1 := k1.obj
  have sr := k1.b1.ob_bytes.str (P := Try.prog) (t := 25) (e := 5) (u := 9) Try.underlying25 Try.underlying5 Try.underlying9
  refine ACalls.of_awp (args := [ptr i]) (n := 8) Try.func11 rfl rfl (by show 1 ≤ 8; omega) ?_
  (repeat' first
    | refine AWP.seq ?_
    | refine AWP.block ?_
    | (refine AWP.skip ?_; try dsimp only [thn, inBlk])
    | (refine AWP.exit ?_; try simp only [thn, inBlk, if_true])
    | (refine AWP.ret ?_; try dsimp only [thn, inBlk])
    | (refine AWP.condT ?_ ?_; (focus (simp [go_sem, c1, sr]; done)))
    | (refine AWP.condF ?_ ?_; (focus (simp [go_sem, c1, sr]; done)))
    | (apply AWP.rE; (focus (simp [go_sem, c1, sr]; exact ⟨rfl, rfl⟩)); try dsimp only [thn, inBlk])
    | fail)
  simp [bodyQ, thn, inBlk, resA, resV, go_sem, T]

theorem stops_calls {O : Old} {h : AHeap} {R : List Chunk} {i : Nat} {s : Pt} (k : Own O h (pty i s :: R)) : ACalls Try.prog 14 #[ptr i] h fun r h' => r = .int .i64 s.stops ∧ h' = h := by
  obtain ⟨al, cl, aw, cw, an, cn, k1⟩ := pty_iff.1 k
  have c1 := k1.obj
  refine ACalls.of_awp (args := [ptr i]) (n := 7) Try.func14 rfl rfl (by show 1 ≤ 7; omega) ?_
  (repeat' first
    | refine AWP.seq ?_
    | refine AWP.block ?_
    | (refine AWP.skip ?_; try dsimp only [thn, inBlk])
    | (refine AWP.exit ?_; try simp only [thn, inBlk, if_true])
    | (refine AWP.ret ?_; try dsimp only [thn, inBlk])
    | (refine AWP.condT ?_ ?_; (focus (simp [go_sem, c1]; done)))
    | (refine AWP.condF ?_ ?_; (focus (simp [go_sem, c1]; done)))
    | (apply AWP.rE; (focus (simp [go_sem, c1]; exact ⟨rfl, rfl⟩)); try dsimp only [thn, inBlk])
    | fail)
  simp [bodyQ, thn, inBlk, resA, resV, go_sem]

theorem same_calls {h : AHeap} {v w : Value} {xs ys : List (List UInt8)} (hv : Sl 1 h v xs.length (xs.map T)) (hw : Sl 1 h w ys.length (ys.map T)) (hl : xs.length ≤ 10000000) :
    ACalls Try.prog 10 #[v, w] h fun r h' => r = .bool (xs == ys) ∧ h' = h := by
  obtain ⟨va, vc, rfl⟩ := hv.val
  obtain ⟨wa, wc, rfl⟩ := hw.val
  refine ACalls.of_awp (args := [.slice va xs.length vc, .slice wa ys.length wc]) (n := 26) Try.func10 rfl rfl (by show 2 ≤ 26; omega) ?_
  by_cases hne : xs.length = ys.length
  rotate_left
  · have hne' : ¬ (xs.length : Int) = ys.length := by omega
    have e : (xs == ys) = false := by rw [beq_eq_false_iff_ne]; rintro rfl; exact hne rfl
    (repeat' first
      | refine AWP.seq ?_
      | refine AWP.block ?_
      | (refine AWP.skip ?_; try dsimp only [thn, inBlk])
      | (refine AWP.exit ?_; try simp only [thn, inBlk, if_true])
      | (refine AWP.ret ?_; try dsimp only [thn, inBlk])
      | (refine AWP.condT ?_ ?_; (focus (simp [go_sem, hne']; done)))
      | (refine AWP.condF ?_ ?_; (focus (simp [go_sem, hne']; done)))
      | (apply AWP.rE; (focus (simp [go_sem, hne']; exact ⟨rfl, rfl⟩)); try dsimp only [thn, inBlk])
      | (apply AWP.dE hmix [.n 0 [0], .n 1 [5], .n 2 [17, 18], .n 3 [19], .n 4 [1], .n 5 [5], .n 6 [21, 22], .n 7 [23], .n 8 [20, 24]]; (focus kernel_rfl); (focus (simp [go_sem, hne']; exact ⟨rfl, rfl⟩)); try dsimp only [thn, inBlk])
      | fail)
    simp [bodyQ, thn, inBlk, resA, resV, go_sem, e]
  (repeat' first
    | refine AWP.seq ?_
    | refine AWP.block ?_
    | (refine AWP.skip ?_; try dsimp only [thn, inBlk])
    | (refine AWP.exit ?_; try simp only [thn, inBlk, if_true])
    | (refine AWP.ret ?_; try dsimp only [thn, inBlk])
    | (refine AWP.condT ?_ ?_; (focus (simp [go_sem, hne]; done)))
    | (refine AWP.condF ?_ ?_; (focus (simp [go_sem, hne]; done)))
    | (apply AWP.rE; (focus (simp [go_sem, hne]; exact ⟨rfl, rfl⟩)); try dsimp only [thn, inBlk])
    | (apply AWP.dE hmix [.n 0 [0], .n 1 [5], .n 2 [17, 18], .n 3 [19], .n 4 [1], .n 5 [5], .n 6 [21, 22], .n 7 [23], .n 8 [20, 24]]; (focus kernel_rfl); (focus (simp [go_sem, hne]; exact ⟨rfl, rfl⟩)); try dsimp only [thn, inBlk])
    | fail)
  refine AWP.loopR [0, 1, 5] (fun m s' h' => ∃ j : Nat, j ≤ xs.length ∧ s' = ⟨26, [(0, .slice va xs.length vc), (1, .slice wa ys.length wc), (5, .int .i64 j)]⟩ ∧ m = xs.length - j ∧ h' = h ∧ xs.take j = ys.take j) ?_ ?_
  · exact ⟨_, 0, by omega, by simp [go_sem, hne], rfl, rfl, rfl⟩
  · rintro m s' h' ⟨j, hj, rfl, rfl, rfl, he⟩
    by_cases hj2 : j < xs.length
    · have hj3 : (j : Int) < xs.length := by omega
      have hj4 : j < ys.length := by omega
      obtain ⟨bi, bo, c, e', sz, ti, ro, q1, q2, q3⟩ := hv.at1 (P := Try.prog) (t := 26) Try.underlying26 tsz9 hj2 (x := .string ⟨xs[j].toArray⟩) (by simp [T, hj2]) (kd := .i64)
      obtain ⟨bi2, bo2, c2, e2', sz2, ti2, ro2, p1, p2, p3⟩ := hw.at1 (P := Try.prog) (t := 26) Try.underlying26 tsz9 hj4 (x := .string ⟨ys[j].toArray⟩) (by simp [T, hj4]) (kd := .i64)
      by_cases hx : xs[j] = ys[j]
      · have w1 : IntKind.i64.wrap ((j : Int) + 1) = j + 1 := wI64 (by omega) (by omega)
        (repeat' first
          | refine AWP.seq ?_
          | refine AWP.block ?_
          | (refine AWP.skip ?_; try dsimp only [thn, inBlk])
          | (refine AWP.exit ?_; try simp only [thn, inBlk, if_true])
          | (refine AWP.ret ?_; try dsimp only [thn, inBlk])
          | (refine AWP.condT ?_ ?_; (focus (simp [go_sem, hj3, q1, q2, q3, p1, p2, p3, hx, w1]; done)))
          | (refine AWP.condF ?_ ?_; (focus (simp [go_sem, hj3, q1, q2, q3, p1, p2, p3, hx, w1]; done)))
          | (apply AWP.rE; (focus (simp [go_sem, hj3, q1, q2, q3, p1, p2, p3, hx, w1]; exact ⟨rfl, rfl⟩)); try dsimp only [thn, inBlk])
          | (apply AWP.dE hmix [.n 0 [0], .n 1 [5], .n 2 [17, 18], .n 3 [19], .n 4 [1], .n 5 [5], .n 6 [21, 22], .n 7 [23], .n 8 [20, 24]]; (focus kernel_rfl); (focus (simp [go_sem, hj3, q1, q2, q3, p1, p2, p3, hx, w1]; exact ⟨rfl, rfl⟩)); try dsimp only [thn, inBlk])
          | fail)
        refine ⟨xs.length - (j + 1), by omega, j + 1, by omega, by simp [go_sem], rfl, rfl, ?_⟩
        rw [List.take_succ_eq_append_getElem hj2, List.take_succ_eq_append_getElem hj4, he, hx]
      · have hx2 : (xs[j] == ys[j]) = false := by simpa using hx
        have e : (xs == ys) = false := by rw [beq_eq_false_iff_ne]; rintro rfl; exact hx rfl
        (repeat' first
          | refine AWP.seq ?_
          | refine AWP.block ?_
          | (refine AWP.skip ?_; try dsimp only [thn, inBlk])
          | (refine AWP.exit ?_; try simp only [thn, inBlk, if_true])
          | (refine AWP.ret ?_; try dsimp only [thn, inBlk])
          | (refine AWP.condT ?_ ?_; (focus (simp [go_sem, hj3, q1, q2, q3, p1, p2, p3, hx2]; done)))
          | (refine AWP.condF ?_ ?_; (focus (simp [go_sem, hj3, q1, q2, q3, p1, p2, p3, hx2]; done)))
          | (apply AWP.rE; (focus (simp [go_sem, hj3, q1, q2, q3, p1, p2, p3, hx2]; exact ⟨rfl, rfl⟩)); try dsimp only [thn, inBlk])
          | (apply AWP.dE hmix [.n 0 [0], .n 1 [5], .n 2 [17, 18], .n 3 [19], .n 4 [1], .n 5 [5], .n 6 [21, 22], .n 7 [23], .n 8 [20, 24]]; (focus kernel_rfl); (focus (simp [go_sem, hj3, q1, q2, q3, p1, p2, p3, hx2]; exact ⟨rfl, rfl⟩)); try dsimp only [thn, inBlk])
          | fail)
        simp [bodyQ, thn, inBlk, resA, resV, go_sem, e]
    · have hj3 : ¬ (j : Int) < xs.length := by omega
      obtain rfl : j = xs.length := by omega
      rw [List.take_length, hne, List.take_length] at he
      subst he
      (repeat' first
        | refine AWP.seq ?_
        | refine AWP.block ?_
        | (refine AWP.skip ?_; try dsimp only [thn, inBlk])
        | (refine AWP.exit ?_; try simp only [thn, inBlk, if_true])
        | (refine AWP.ret ?_; try dsimp only [thn, inBlk])
        | (refine AWP.condT ?_ ?_; (focus (simp [go_sem, hj3]; done)))
        | (refine AWP.condF ?_ ?_; (focus (simp [go_sem, hj3]; done)))
        | (apply AWP.rE; (focus (simp [go_sem, hj3]; exact ⟨rfl, rfl⟩)); try dsimp only [thn, inBlk])
        | (apply AWP.dE hmix [.n 0 [0], .n 1 [5], .n 2 [17, 18], .n 3 [19], .n 4 [1], .n 5 [5], .n 6 [21, 22], .n 7 [23], .n 8 [20, 24]]; (focus kernel_rfl); (focus (simp [go_sem, hj3]; exact ⟨rfl, rfl⟩)); try dsimp only [thn, inBlk])
        | fail)
      simp [bodyQ, thn, inBlk, resA, resV, go_sem]
end L21
