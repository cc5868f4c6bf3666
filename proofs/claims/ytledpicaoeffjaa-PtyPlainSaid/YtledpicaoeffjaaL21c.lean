import Derived.Test.YtledpicaoeffjaaL21b
open Go Ab Go.Proofs
namespace L21
set_option autoImplicit false
set_option linter.unusedSimpArgs false
set_option linter.unusedVariables false

abbrev rrow (s : Pt) (last : UInt8) : AObj := .row [.string ⟨s.line.toArray⟩, .int .u8 last.toNat, .int .i64 s.stops] 37 3 true false

theorem strR_one (h : AHeap) (i : Nat) (c : UInt8) (hi : i = h.next) : strR Try.prog (h.push (.row [.int .u8 c.toNat] 5 1 true false)) 25 9 (.slice (some ⟨i, 0, none⟩) 1 1) = some (.string ⟨[c].toArray⟩) :=
  strR_new (bs := [c]) Try.underlying25 Try.underlying5 Try.underlying9 hi rfl

theorem rub_kill (n : Nat) : (List.replicate (n + 1) [(8 : UInt8), 32, 8]).flatten = (List.replicate n [8, 32, 8]).flatten ++ [8, 32, 8] := by
  induction n with
  | zero => rfl
  | succ n ih => rw [List.replicate_succ, List.flatten_cons, ih, ← List.append_assoc, ← List.flatten_cons, ← List.replicate_succ, ih]

/-- The loop's head. -/
def RF (O : Old) (R : List Chunk) (xa : Option Addr) (xc : Nat) (bs : List UInt8) (s : Pt) (i n m : Nat) (s' : St) (h' : AHeap) : Prop :=
  ∃ (j : Nat) (an : Option Addr) (cn : Nat) (last : UInt8), j ≤ bs.length ∧ (last == 13) = (Pt.run (bs.take j) s).entered ∧ m = bs.length - j ∧
    s' = ⟨142, [(0, ptr i), (1, .slice xa bs.length xc), (6, .string ⟨(Pt.run (bs.take j) s).shown.toArray⟩), (7, .slice an (Pt.run (bs.take j) s).lines.length cn), (8, .int .i64 j)]⟩ ∧
    (Pt.run (bs.take j) s).ok (n + 240 * j) ∧ Own O h' (cell i (rrow (Pt.run (bs.take j) s) last) :: os 9 1 (.slice an (Pt.run (bs.take j) s).lines.length cn) (Pt.run (bs.take j) s).lines.length ((Pt.run (bs.take j) s).lines.map T) :: R)

theorem RF.step {O : Old} {R : List Chunk} {xa : Option Addr} {xc : Nat} {bs : List UInt8} {s t : Pt} {i n j : Nat} (hj : j < bs.length) (ht : t = Pt.run (bs.take j) s) (ok : t.ok (n + 240 * j)) {b : UInt8} (hb : b = bs[j]) (t2 : Pt) (h1 : Pt.key b t = t2)
    {s2 : St} {h2 : AHeap} {an2 : Option Addr} {cn2 : Nat} (e2 : (b == 13) = t2.entered) (e3 : s2.only [0, 1, 6, 7, 8] = ⟨142, [(0, ptr i), (1, .slice xa bs.length xc), (6, .string ⟨t2.shown.toArray⟩), (7, .slice an2 t2.lines.length cn2), (8, .int .i64 ((j : Int) + 1))]⟩)
    (e4 : Own O h2 (cell i (rrow t2 b) :: os 9 1 (.slice an2 t2.lines.length cn2) t2.lines.length (t2.lines.map T) :: R)) : ∃ m, m < bs.length - j ∧ RF O R xa xc bs s i n m (s2.only [0, 1, 6, 7, 8]) h2 := by
  subst ht hb
  have hrun : Pt.run (bs.take (j + 1)) s = t2 := by rw [List.take_succ_eq_append_getElem hj, Pt.run_snoc]; exact h1
  refine ⟨bs.length - (j + 1), by omega, j + 1, an2, cn2, bs[j], by omega, ?_, rfl, ?_, ?_, ?_⟩
  · rw [hrun]; exact e2
  · rw [hrun, e3]; rfl
  · rw [hrun, show n + 240 * (j + 1) = n + 240 * j + 240 by omega, ← h1]; exact ok.key _
  · rw [hrun]; exact e4


set_option maxHeartbeats 2000000 in
theorem refFeed_calls {O : Old} {h : AHeap} {R : List Chunk} {i n : Nat} {s : Pt} {last : UInt8} {xv : Value} {bs : List UInt8} (k : Own O h (cell i (rrow s last) :: R)) (hl : (last == 13) = s.entered) (hx : ∀ h, Own O h R → Bytes h xv bs) (ok : s.ok n) (hn : n + 240 * bs.length ≤ 8000000) :
    ACalls Try.prog 13 #[ptr i, xv] h fun r h' => ∃ an cn last', let t := s.feed bs
      r = .tuple #[T t.shown, .slice an t.lines.length cn] ∧ (last' == 13) = t.entered ∧ Own O h' (cell i (rrow t last') :: os 9 1 (.slice an t.lines.length cn) t.lines.length (t.lines.map T) :: R) := by
  obtain ⟨xa, xc, rfl⟩ := (hx h k.tail).val
  refine ACalls.of_awp (args := [ptr i, .slice xa bs.length xc]) (n := 142) Try.func13 rfl rfl (by show 2 ≤ 142; omega) ?_
  (repeat' first
    | refine AWP.seq ?_
    | refine AWP.block ?_
    | (refine AWP.skip ?_; try dsimp only [thn, inBlk])
    | (refine AWP.exit ?_; try simp only [thn, inBlk, if_true])
    | (refine AWP.ret ?_; try dsimp only [thn, inBlk])
    | (refine AWP.condT ?_ ?_; (focus (simp [go_sem]; done)))
    | (refine AWP.condF ?_ ?_; (focus (simp [go_sem]; done)))
    | (apply AWP.rE; (focus (simp [go_sem]; exact ⟨rfl, rfl⟩)); try dsimp only [thn, inBlk])
    | (apply AWP.dE hmix [.n 0 [1], .n 1 [8], .n 2 [20, 21], .n 3 [22], .n 4 [0], .n 5 [24], .n 6 [25], .n 7 [26], .n 8 [23], .n 9 [27]]; (focus kernel_rfl); (focus (simp [go_sem]; exact ⟨rfl, rfl⟩)); try dsimp only [thn, inBlk])
    | (apply AWP.dE hmix [.n 0 [0], .n 1 [117], .n 2 [118], .n 3 [119], .n 4 [9], .n 5 [121], .n 6 [122], .n 7 [120, 123], .n 8 [117], .n 9 [125], .w 10 [126, 124] []]; (focus kernel_rfl); (focus (simp [go_sem]; exact ⟨rfl, rfl⟩)); try dsimp only [thn, inBlk])
    | fail)
  refine AWP.loopR [0, 1, 6, 7, 8] (RF O R xa xc bs { s with shown := [], lines := [] } i n) ?_ ?_
  · refine ⟨_, 0, some ⟨h.next, 0, none⟩, 0, last, by omega, by simpa [Pt.run] using hl, rfl, by simp [go_sem, Pt.run], ⟨ok.line, by simp [Pt.run], by simp [Pt.run], ok.stops⟩, ?_⟩
    have k2 := (k.push (.row [] 9 1 true false)).os_mk (n := 0) (cap := 0) (off := 0) (cs := []) (by omega) (by simp) (by simp)
    simpa [Pt.run] using k2.b1
  · rintro m s' h' ⟨j, an, cn, last', hj, hl', rfl, rfl, okt, kt⟩
    by_cases hj2 : j < bs.length
    rotate_left
    · have hj3 : ¬ (j : Int) < bs.length := by omega
      obtain rfl : j = bs.length := by omega
      rw [List.take_length] at kt hl' ⊢
      (repeat' first
        | refine AWP.seq ?_
        | refine AWP.block ?_
        | (refine AWP.skip ?_; try dsimp only [thn, inBlk])
        | (refine AWP.exit ?_; try simp only [thn, inBlk, if_true])
        | (refine AWP.ret ?_; try dsimp only [thn, inBlk])
        | (refine AWP.condT ?_ ?_; (focus (simp [go_sem, hj3]; done)))
        | (refine AWP.condF ?_ ?_; (focus (simp [go_sem, hj3]; done)))
        | (apply AWP.rE; (focus (simp [go_sem, hj3]; exact ⟨rfl, rfl⟩)); try dsimp only [thn, inBlk])
        | (apply AWP.dE hmix [.n 0 [1], .n 1 [8], .n 2 [20, 21], .n 3 [22], .n 4 [0], .n 5 [24], .n 6 [25], .n 7 [26], .n 8 [23], .n 9 [27]]; (focus kernel_rfl); (focus (simp [go_sem, hj3]; exact ⟨rfl, rfl⟩)); try dsimp only [thn, inBlk])
        | (apply AWP.dE hmix [.n 0 [0], .n 1 [117], .n 2 [118], .n 3 [119], .n 4 [9], .n 5 [121], .n 6 [122], .n 7 [120, 123], .n 8 [117], .n 9 [125], .w 10 [126, 124] []]; (focus kernel_rfl); (focus (simp [go_sem, hj3]; exact ⟨rfl, rfl⟩)); try dsimp only [thn, inBlk])
        | fail)
      simp [bodyQ, thn, inBlk, resA, resV, go_sem]
      exact ⟨_, _, ⟨rfl, rfl, rfl, rfl⟩, _, hl', kt⟩
    have hj3 : (j : Int) < bs.length := by omega
    obtain ⟨bi, bo, c, e', sz, ti, ro, q1, q2, q3⟩ := (hx h' kt.tail.tail).at (P := Try.prog) (t := 25) Try.underlying25 tsz5 hj2 (kd := .i64)
    have w0 : IntKind.i64.wrap ((j : Int) + 1) = j + 1 := wI64 (by omega) (by omega)
    have step := fun b hb t ht ok => @RF.step O R xa xc bs { s with shown := [], lines := [] } t i n j hj2 ht ok b hb
    generalize ht : Pt.run (bs.take j) { s with shown := [], lines := [] } = t at *
    have okt' := okt
    obtain ⟨o1, o2, o3, o4⟩ := okt
    have step := fun b hb => step b hb t rfl okt'
    generalize hc : bs[j] = b at *
    have step := step b rfl
    have c1 := kt.obj
    have k1 := kt.set (.row [.string ⟨t.line.toArray⟩, .int .u8 b.toNat, .int .i64 t.stops] 37 3 true false)
    by_cases h13 : b = 13
    · have t13 : ((b.toNat : Int) == 13) = true := by rw [h13]; rfl
      have eb : (b == 13) = true := by rw [h13]; rfl
      obtain ⟨a, cap, hh, e1, k2⟩ := k1.b1.app1 (P := Try.prog) (t := 26) (xt := 26) (x := .string ⟨t.line.toArray⟩) (i := h'.next) Try.underlying26 tsz9 tby9 tz9 nI26 (by omega) rfl rfl rfl (by omega)
      have k3 := k2.b1
      have c3 := k3.obj
      have hs : t.shown.length + 2 ≤ 9223372036854775807 := by omega
      have k4 := k3.set (.row [.string ⟨[].toArray⟩, .int .u8 b.toNat, .int .i64 t.stops] 37 3 true false)
      (repeat' first
        | refine AWP.seq ?_
        | refine AWP.block ?_
        | (refine AWP.skip ?_; try dsimp only [thn, inBlk])
        | (refine AWP.exit ?_; try simp only [thn, inBlk, if_true])
        | (refine AWP.ret ?_; try dsimp only [thn, inBlk])
        | (refine AWP.condT ?_ ?_; (focus (simp [go_sem, hj3, q1, q2, q3, c1, q1, t13, e1, c3, hs, w0]; done)))
        | (refine AWP.condF ?_ ?_; (focus (simp [go_sem, hj3, q1, q2, q3, c1, q1, t13, e1, c3, hs, w0]; done)))
        | (apply AWP.rE; (focus (simp [go_sem, hj3, q1, q2, q3, c1, q1, t13, e1, c3, hs, w0]; exact ⟨rfl, rfl⟩)); try dsimp only [thn, inBlk])
        | (apply AWP.dE hmix [.n 0 [1], .n 1 [8], .n 2 [20, 21], .n 3 [22], .n 4 [0], .n 5 [24], .n 6 [25], .n 7 [26], .n 8 [23], .n 9 [27]]; (focus kernel_rfl); (focus (simp [go_sem, hj3, q1, q2, q3, c1, q1, t13, e1, c3, hs, w0]; exact ⟨rfl, rfl⟩)); try dsimp only [thn, inBlk])
        | (apply AWP.dE hmix [.n 0 [0], .n 1 [117], .n 2 [118], .n 3 [119], .n 4 [9], .n 5 [121], .n 6 [122], .n 7 [120, 123], .n 8 [117], .n 9 [125], .w 10 [126, 124] []]; (focus kernel_rfl); (focus (simp [go_sem, hj3, q1, q2, q3, c1, q1, t13, e1, c3, hs, w0]; exact ⟨rfl, rfl⟩)); try dsimp only [thn, inBlk])
        | fail)
      refine step ⟨[], true, t.stops, t.shown ++ [13, 10], t.lines ++ [t.line]⟩ (an2 := a) (cn2 := cap) ?_ eb ?_ ?_
      rotate_left
      · simp [go_sem]
      · simpa [T, rrow] using k4
      simp [Pt.key, Pt.enter, h13]
    have n13 : ((b.toNat : Int) == 13) = false := neI (d := 13) h13
    have e13 : (b == 13) = false := by simpa using h13
    by_cases h10 : b = 10
    · have t10 : ((b.toNat : Int) == 10) = true := by rw [h10]; rfl
      by_cases he : t.entered = true
      · have hl2 : last' = 13 := by rw [he] at hl'; simpa using hl'
        subst hl2
        have f8 : ((b.toNat : Int) == 8) = false := by rw [h10]; rfl
        have f127 : ((b.toNat : Int) == 127) = false := by rw [h10]; rfl
        have f21 : ((b.toNat : Int) == 21) = false := by rw [h10]; rfl
        have f3 : ((b.toNat : Int) == 3) = false := by rw [h10]; rfl
        have g1 : ¬ (32 : Int) ≤ b.toNat := by rw [h10]; decide
        (repeat' first
          | refine AWP.seq ?_
          | refine AWP.block ?_
          | (refine AWP.skip ?_; try dsimp only [thn, inBlk])
          | (refine AWP.exit ?_; try simp only [thn, inBlk, if_true])
          | (refine AWP.ret ?_; try dsimp only [thn, inBlk])
          | (refine AWP.condT ?_ ?_; (focus (simp [go_sem, hj3, q1, q2, q3, c1, w0, n13, t10, f8, f127, f21, f3, g1]; done)))
          | (refine AWP.condF ?_ ?_; (focus (simp [go_sem, hj3, q1, q2, q3, c1, w0, n13, t10, f8, f127, f21, f3, g1]; done)))
          | (apply AWP.rE; (focus (simp [go_sem, hj3, q1, q2, q3, c1, w0, n13, t10, f8, f127, f21, f3, g1]; exact ⟨rfl, rfl⟩)); try dsimp only [thn, inBlk])
          | (apply AWP.dE hmix [.n 0 [1], .n 1 [8], .n 2 [20, 21], .n 3 [22], .n 4 [0], .n 5 [24], .n 6 [25], .n 7 [26], .n 8 [23], .n 9 [27]]; (focus kernel_rfl); (focus (simp [go_sem, hj3, q1, q2, q3, c1, w0, n13, t10, f8, f127, f21, f3, g1]; exact ⟨rfl, rfl⟩)); try dsimp only [thn, inBlk])
          | (apply AWP.dE hmix [.n 0 [0], .n 1 [117], .n 2 [118], .n 3 [119], .n 4 [9], .n 5 [121], .n 6 [122], .n 7 [120, 123], .n 8 [117], .n 9 [125], .w 10 [126, 124] []]; (focus kernel_rfl); (focus (simp [go_sem, hj3, q1, q2, q3, c1, w0, n13, t10, f8, f127, f21, f3, g1]; exact ⟨rfl, rfl⟩)); try dsimp only [thn, inBlk])
          | fail)
        refine step { t with entered := false } (an2 := an) (cn2 := cn) (by simp [Pt.key, he, h10]) e13 ?_ k1
        simp [go_sem]
      · have he' : t.entered = false := by simpa using he
        rw [he'] at hl'
        have hl2 : ((last'.toNat : Int) != 13) = true := by rw [bne_iff_ne]; intro e; have : last' = 13 := UInt8.toNat_inj.1 (Int.ofNat.inj e); simp [this] at hl'
        obtain ⟨a, cap, hh, e1, k2⟩ := k1.b1.app1 (P := Try.prog) (t := 26) (xt := 26) (x := .string ⟨t.line.toArray⟩) (i := h'.next) Try.underlying26 tsz9 tby9 tz9 nI26 (by omega) rfl rfl rfl (by omega)
        have k3 := k2.b1
        have c3 := k3.obj
        have hs : t.shown.length + 2 ≤ 9223372036854775807 := by omega
        have k4 := k3.set (.row [.string ⟨[].toArray⟩, .int .u8 b.toNat, .int .i64 t.stops] 37 3 true false)
        (repeat' first
          | refine AWP.seq ?_
          | refine AWP.block ?_
          | (refine AWP.skip ?_; try dsimp only [thn, inBlk])
          | (refine AWP.exit ?_; try simp only [thn, inBlk, if_true])
          | (refine AWP.ret ?_; try dsimp only [thn, inBlk])
          | (refine AWP.condT ?_ ?_; (focus (simp [go_sem, hj3, q1, q2, q3, c1, hl2, n13,t10, e1, c3, hs, w0]; done)))
          | (refine AWP.condF ?_ ?_; (focus (simp [go_sem, hj3, q1, q2, q3, c1, hl2, n13,t10, e1, c3, hs, w0]; done)))
          | (apply AWP.rE; (focus (simp [go_sem, hj3, q1, q2, q3, c1, hl2, n13,t10, e1, c3, hs, w0]; exact ⟨rfl, rfl⟩)); try dsimp only [thn, inBlk])
          | (apply AWP.dE hmix [.n 0 [1], .n 1 [8], .n 2 [20, 21], .n 3 [22], .n 4 [0], .n 5 [24], .n 6 [25], .n 7 [26], .n 8 [23], .n 9 [27]]; (focus kernel_rfl); (focus (simp [go_sem, hj3, q1, q2, q3, c1, hl2, n13,t10, e1, c3, hs, w0]; exact ⟨rfl, rfl⟩)); try dsimp only [thn, inBlk])
          | (apply AWP.dE hmix [.n 0 [0], .n 1 [117], .n 2 [118], .n 3 [119], .n 4 [9], .n 5 [121], .n 6 [122], .n 7 [120, 123], .n 8 [117], .n 9 [125], .w 10 [126, 124] []]; (focus kernel_rfl); (focus (simp [go_sem, hj3, q1, q2, q3, c1, hl2, n13,t10, e1, c3, hs, w0]; exact ⟨rfl, rfl⟩)); try dsimp only [thn, inBlk])
          | fail)
        refine step ⟨[], false, t.stops, t.shown ++ [13, 10], t.lines ++ [t.line]⟩ (an2 := a) (cn2 := cap) ?_ e13 ?_ ?_
        rotate_left
        · simp [go_sem]
        · simpa [T, rrow] using k4
        simp [Pt.key, Pt.enter, he', h10]
    have n10 : ((b.toNat : Int) == 10) = false := neI (d := 10) h10
    have hk : Pt.key b t = if b = 8 ∨ b = 127 then Pt.rub { t with entered := false } else if b = 21 then Pt.kill { t with entered := false } else if b = 3 then Pt.stop { t with entered := false } else Pt.plain b { t with entered := false } := by
      rw [Pt.key]; simp only [e13, if_neg h10, if_neg h13]
    rw [hk] at step
    have e13' : (b == 13) = false := e13
    by_cases h8 : b = 8 ∨ b = 127
    · rw [if_pos h8] at step
      have t8 : ((b.toNat : Int) == 8 || (b.toNat : Int) == 127) = true := by rcases h8 with h | h <;> rw [h] <;> rfl
      rcases List.eq_nil_or_concat t.line with e | ⟨l, x, e⟩
      · have el : t.line.length = 0 := by rw [e]; rfl
        have er : Pt.rub { t with entered := false } = { t with entered := false } := by rw [Pt.rub, if_pos e]
        have k2 := k1
        by_cases h8a : b = 8
        · have t8 : ((b.toNat : Int) == 8) = true := by rw [h8a]; rfl
          have f21 : ((b.toNat : Int) == 21) = false := by rw [h8a]; rfl
          have f3 : ((b.toNat : Int) == 3) = false := by rw [h8a]; rfl
          have g1 : ¬ (32 : Int) ≤ b.toNat := by rw [h8a]; decide
          (repeat' first
            | refine AWP.seq ?_
            | refine AWP.block ?_
            | (refine AWP.skip ?_; try dsimp only [thn, inBlk])
            | (refine AWP.exit ?_; try simp only [thn, inBlk, if_true])
            | (refine AWP.ret ?_; try dsimp only [thn, inBlk])
            | (refine AWP.condT ?_ ?_; (focus (simp [go_sem, hj3, q1, q2, q3, c1, w0, n13, n10, t8, f21, f3, g1, el]; done)))
            | (refine AWP.condF ?_ ?_; (focus (simp [go_sem, hj3, q1, q2, q3, c1, w0, n13, n10, t8, f21, f3, g1, el]; done)))
            | (apply AWP.rE; (focus (simp [go_sem, hj3, q1, q2, q3, c1, w0, n13, n10, t8, f21, f3, g1, el]; exact ⟨rfl, rfl⟩)); try dsimp only [thn, inBlk])
            | (apply AWP.dE hmix [.n 0 [1], .n 1 [8], .n 2 [20, 21], .n 3 [22], .n 4 [0], .n 5 [24], .n 6 [25], .n 7 [26], .n 8 [23], .n 9 [27]]; (focus kernel_rfl); (focus (simp [go_sem, hj3, q1, q2, q3, c1, w0, n13, n10, t8, f21, f3, g1, el]; exact ⟨rfl, rfl⟩)); try dsimp only [thn, inBlk])
            | (apply AWP.dE hmix [.n 0 [0], .n 1 [117], .n 2 [118], .n 3 [119], .n 4 [9], .n 5 [121], .n 6 [122], .n 7 [120, 123], .n 8 [117], .n 9 [125], .w 10 [126, 124] []]; (focus kernel_rfl); (focus (simp [go_sem, hj3, q1, q2, q3, c1, w0, n13, n10, t8, f21, f3, g1, el]; exact ⟨rfl, rfl⟩)); try dsimp only [thn, inBlk])
            | fail)
          refine step _ (an2 := an) (cn2 := cn) er e13 ?_ k2
          simp [go_sem]
        · have n8 : ((b.toNat : Int) == 8) = false := neI (d := 8) h8a
          have h8b := h8.resolve_left h8a
          have t127 : ((b.toNat : Int) == 127) = true := by rw [h8b]; rfl
          have f21 : ((b.toNat : Int) == 21) = false := by rw [h8b]; rfl
          have f3 : ((b.toNat : Int) == 3) = false := by rw [h8b]; rfl
          have g1 : (32 : Int) ≤ b.toNat := by rw [h8b]; decide
          have g2 : ¬ (b.toNat : Int) ≤ 126 := by rw [h8b]; decide
          (repeat' first
            | refine AWP.seq ?_
            | refine AWP.block ?_
            | (refine AWP.skip ?_; try dsimp only [thn, inBlk])
            | (refine AWP.exit ?_; try simp only [thn, inBlk, if_true])
            | (refine AWP.ret ?_; try dsimp only [thn, inBlk])
            | (refine AWP.condT ?_ ?_; (focus (simp [go_sem, hj3, q1, q2, q3, c1, w0, n13, n10, n8, t127, f21, f3, g1, g2, el]; done)))
            | (refine AWP.condF ?_ ?_; (focus (simp [go_sem, hj3, q1, q2, q3, c1, w0, n13, n10, n8, t127, f21, f3, g1, g2, el]; done)))
            | (apply AWP.rE; (focus (simp [go_sem, hj3, q1, q2, q3, c1, w0, n13, n10, n8, t127, f21, f3, g1, g2, el]; exact ⟨rfl, rfl⟩)); try dsimp only [thn, inBlk])
            | (apply AWP.dE hmix [.n 0 [1], .n 1 [8], .n 2 [20, 21], .n 3 [22], .n 4 [0], .n 5 [24], .n 6 [25], .n 7 [26], .n 8 [23], .n 9 [27]]; (focus kernel_rfl); (focus (simp [go_sem, hj3, q1, q2, q3, c1, w0, n13, n10, n8, t127, f21, f3, g1, g2, el]; exact ⟨rfl, rfl⟩)); try dsimp only [thn, inBlk])
            | (apply AWP.dE hmix [.n 0 [0], .n 1 [117], .n 2 [118], .n 3 [119], .n 4 [9], .n 5 [121], .n 6 [122], .n 7 [120, 123], .n 8 [117], .n 9 [125], .w 10 [126, 124] []]; (focus kernel_rfl); (focus (simp [go_sem, hj3, q1, q2, q3, c1, w0, n13, n10, n8, t127, f21, f3, g1, g2, el]; exact ⟨rfl, rfl⟩)); try dsimp only [thn, inBlk])
            | fail)
          refine step _ (an2 := an) (cn2 := cn) er e13 ?_ k2
          simp [go_sem]
      · have el : t.line.length = l.length + 1 := by rw [e]; simp
        have er : Pt.rub { t with entered := false } = { t with entered := false, line := l, shown := t.shown ++ [8, 32, 8] } := by rw [Pt.rub, if_neg (by simp [e])]; simp [e]
        have sl : ∀ hh : AHeap, sliceR Try.prog hh 9 (.string ⟨t.line.toArray⟩) none (some (.int .i64 l.length)) none = some (.string ⟨l.toArray⟩) := fun hh => by
          have := str_slice (P := Try.prog) (h := hh) (t := 9) (l := t.line) (lo := 0) (hi := l.length) (a := none) (u := some (.int .i64 l.length)) Try.underlying9 (by omega) (by omega) (.inl ⟨rfl, rfl⟩) (.inr ⟨_, rfl⟩)
          rw [this, e]; simp
        have w1 : IntKind.i64.wrap (l.length : Int) = l.length := wI64 (by omega) (by omega)
        have hp : (0 : Int) < l.length + 1 := by omega
        have hs : t.shown.length + 3 ≤ 9223372036854775807 := by omega
        have k2 := k1.set (.row [.string ⟨l.toArray⟩, .int .u8 b.toNat, .int .i64 t.stops] 37 3 true false)
        by_cases h8a : b = 8
        · have t8 : ((b.toNat : Int) == 8) = true := by rw [h8a]; rfl
          have f21 : ((b.toNat : Int) == 21) = false := by rw [h8a]; rfl
          have f3 : ((b.toNat : Int) == 3) = false := by rw [h8a]; rfl
          have g1 : ¬ (32 : Int) ≤ b.toNat := by rw [h8a]; decide
          (repeat' first
            | refine AWP.seq ?_
            | refine AWP.block ?_
            | (refine AWP.skip ?_; try dsimp only [thn, inBlk])
            | (refine AWP.exit ?_; try simp only [thn, inBlk, if_true])
            | (refine AWP.ret ?_; try dsimp only [thn, inBlk])
            | (refine AWP.condT ?_ ?_; (focus (simp [go_sem, hj3, q1, q2, q3, c1, w0, n13, n10, t8, f21, f3, g1, el,sl,w1,hp,hs]; done)))
            | (refine AWP.condF ?_ ?_; (focus (simp [go_sem, hj3, q1, q2, q3, c1, w0, n13, n10, t8, f21, f3, g1, el,sl,w1,hp,hs]; done)))
            | (apply AWP.rE; (focus (simp [go_sem, hj3, q1, q2, q3, c1, w0, n13, n10, t8, f21, f3, g1, el,sl,w1,hp,hs]; exact ⟨rfl, rfl⟩)); try dsimp only [thn, inBlk])
            | (apply AWP.dE hmix [.n 0 [1], .n 1 [8], .n 2 [20, 21], .n 3 [22], .n 4 [0], .n 5 [24], .n 6 [25], .n 7 [26], .n 8 [23], .n 9 [27]]; (focus kernel_rfl); (focus (simp [go_sem, hj3, q1, q2, q3, c1, w0, n13, n10, t8, f21, f3, g1, el,sl,w1,hp,hs]; exact ⟨rfl, rfl⟩)); try dsimp only [thn, inBlk])
            | (apply AWP.dE hmix [.n 0 [0], .n 1 [117], .n 2 [118], .n 3 [119], .n 4 [9], .n 5 [121], .n 6 [122], .n 7 [120, 123], .n 8 [117], .n 9 [125], .w 10 [126, 124] []]; (focus kernel_rfl); (focus (simp [go_sem, hj3, q1, q2, q3, c1, w0, n13, n10, t8, f21, f3, g1, el,sl,w1,hp,hs]; exact ⟨rfl, rfl⟩)); try dsimp only [thn, inBlk])
            | fail)
          refine step _ (an2 := an) (cn2 := cn) er e13 ?_ k2
          simp [go_sem]
        · have n8 : ((b.toNat : Int) == 8) = false := neI (d := 8) h8a
          have h8b := h8.resolve_left h8a
          have t127 : ((b.toNat : Int) == 127) = true := by rw [h8b]; rfl
          have f21 : ((b.toNat : Int) == 21) = false := by rw [h8b]; rfl
          have f3 : ((b.toNat : Int) == 3) = false := by rw [h8b]; rfl
          have g1 : (32 : Int) ≤ b.toNat := by rw [h8b]; decide
          have g2 : ¬ (b.toNat : Int) ≤ 126 := by rw [h8b]; decide
          (repeat' first
            | refine AWP.seq ?_
            | refine AWP.block ?_
            | (refine AWP.skip ?_; try dsimp only [thn, inBlk])
            | (refine AWP.exit ?_; try simp only [thn, inBlk, if_true])
            | (refine AWP.ret ?_; try dsimp only [thn, inBlk])
            | (refine AWP.condT ?_ ?_; (focus (simp [go_sem, hj3, q1, q2, q3, c1, w0, n13, n10, n8, t127, f21, f3, g1, g2, el,sl,w1,hp,hs]; done)))
            | (refine AWP.condF ?_ ?_; (focus (simp [go_sem, hj3, q1, q2, q3, c1, w0, n13, n10, n8, t127, f21, f3, g1, g2, el,sl,w1,hp,hs]; done)))
            | (apply AWP.rE; (focus (simp [go_sem, hj3, q1, q2, q3, c1, w0, n13, n10, n8, t127, f21, f3, g1, g2, el,sl,w1,hp,hs]; exact ⟨rfl, rfl⟩)); try dsimp only [thn, inBlk])
            | (apply AWP.dE hmix [.n 0 [1], .n 1 [8], .n 2 [20, 21], .n 3 [22], .n 4 [0], .n 5 [24], .n 6 [25], .n 7 [26], .n 8 [23], .n 9 [27]]; (focus kernel_rfl); (focus (simp [go_sem, hj3, q1, q2, q3, c1, w0, n13, n10, n8, t127, f21, f3, g1, g2, el,sl,w1,hp,hs]; exact ⟨rfl, rfl⟩)); try dsimp only [thn, inBlk])
            | (apply AWP.dE hmix [.n 0 [0], .n 1 [117], .n 2 [118], .n 3 [119], .n 4 [9], .n 5 [121], .n 6 [122], .n 7 [120, 123], .n 8 [117], .n 9 [125], .w 10 [126, 124] []]; (focus kernel_rfl); (focus (simp [go_sem, hj3, q1, q2, q3, c1, w0, n13, n10, n8, t127, f21, f3, g1, g2, el,sl,w1,hp,hs]; exact ⟨rfl, rfl⟩)); try dsimp only [thn, inBlk])
            | fail)
          refine step _ (an2 := an) (cn2 := cn) er e13 ?_ k2
          simp [go_sem]
    rw [if_neg h8] at step
    have n8 : ((b.toNat : Int) == 8) = false := neI (d := 8) fun e => h8 (.inl e)
    have n127 : ((b.toNat : Int) == 127) = false := neI (d := 127) fun e => h8 (.inr e)
    by_cases h21 : b = 21
    · have t21 : ((b.toNat : Int) == 21) = true := by rw [h21]; rfl
      rw [if_pos h21] at step
      (repeat' first
        | refine AWP.seq ?_
        | refine AWP.block ?_
        | (refine AWP.skip ?_; try dsimp only [thn, inBlk])
        | (refine AWP.exit ?_; try simp only [thn, inBlk, if_true])
        | (refine AWP.ret ?_; try dsimp only [thn, inBlk])
        | (refine AWP.condT ?_ ?_; (focus (simp [go_sem, hj3, q1, q2, q3, c1, w0, n13, n10, n8, n127, t21]; done)))
        | (refine AWP.condF ?_ ?_; (focus (simp [go_sem, hj3, q1, q2, q3, c1, w0, n13, n10, n8, n127, t21]; done)))
        | (apply AWP.rE; (focus (simp [go_sem, hj3, q1, q2, q3, c1, w0, n13, n10, n8, n127, t21]; exact ⟨rfl, rfl⟩)); try dsimp only [thn, inBlk])
        | (apply AWP.dE hmix [.n 0 [1], .n 1 [8], .n 2 [20, 21], .n 3 [22], .n 4 [0], .n 5 [24], .n 6 [25], .n 7 [26], .n 8 [23], .n 9 [27]]; (focus kernel_rfl); (focus (simp [go_sem, hj3, q1, q2, q3, c1, w0, n13, n10, n8, n127, t21]; exact ⟨rfl, rfl⟩)); try dsimp only [thn, inBlk])
        | (apply AWP.dE hmix [.n 0 [0], .n 1 [117], .n 2 [118], .n 3 [119], .n 4 [9], .n 5 [121], .n 6 [122], .n 7 [120, 123], .n 8 [117], .n 9 [125], .w 10 [126, 124] []]; (focus kernel_rfl); (focus (simp [go_sem, hj3, q1, q2, q3, c1, w0, n13, n10, n8, n127, t21]; exact ⟨rfl, rfl⟩)); try dsimp only [thn, inBlk])
        | fail)
      refine AWP.loopR [0, 1, 6, 7, 8, 11, 12] (fun m s' h2 => ∃ d : Nat, d ≤ t.line.length ∧ m = t.line.length - d ∧ s' = ⟨142, [(0, ptr i), (1, .slice xa bs.length xc), (6, .string ⟨(t.shown ++ (List.replicate d [8, 32, 8]).flatten).toArray⟩), (7, .slice an t.lines.length cn), (8, .int .i64 j), (11, .int .i64 t.line.length), (12, .int .i64 d)]⟩ ∧ h2 = h'.set i (.row [.string ⟨t.line.toArray⟩, .int .u8 b.toNat, .int .i64 t.stops] 37 3 true false)) ?_ ?_
      · exact ⟨_, 0, by omega, rfl, by simp [go_sem], by simp⟩
      · rintro m s' h2 ⟨d, hd, rfl, rfl, rfl⟩
        by_cases hd2 : d < t.line.length
        · have hd3 : (d : Int) < t.line.length := by omega
          have w1 : IntKind.i64.wrap ((d : Int) + 1) = d + 1 := wI64 (by omega) (by omega)
          have hs : t.shown.length + (List.replicate d [(8 : UInt8), 32, 8]).flatten.length + 3 ≤ 9223372036854775807 := by rw [flatten3]; omega
          generalize hf : (List.replicate d [(8 : UInt8), 32, 8]).flatten = fl at *
          (repeat' first
            | refine AWP.seq ?_
            | refine AWP.block ?_
            | (refine AWP.skip ?_; try dsimp only [thn, inBlk])
            | (refine AWP.exit ?_; try simp only [thn, inBlk, if_true])
            | (refine AWP.ret ?_; try dsimp only [thn, inBlk])
            | (refine AWP.condT ?_ ?_; (focus (simp [go_sem, hd3, w1, hs, List.length_append]; done)))
            | (refine AWP.condF ?_ ?_; (focus (simp [go_sem, hd3, w1, hs, List.length_append]; done)))
            | (apply AWP.rE; (focus (simp [go_sem, hd3, w1, hs, List.length_append]; exact ⟨rfl, rfl⟩)); try dsimp only [thn, inBlk])
            | (apply AWP.dE hmix [.n 0 [1], .n 1 [8], .n 2 [20, 21], .n 3 [22], .n 4 [0], .n 5 [24], .n 6 [25], .n 7 [26], .n 8 [23], .n 9 [27]]; (focus kernel_rfl); (focus (simp [go_sem, hd3, w1, hs, List.length_append]; exact ⟨rfl, rfl⟩)); try dsimp only [thn, inBlk])
            | (apply AWP.dE hmix [.n 0 [0], .n 1 [117], .n 2 [118], .n 3 [119], .n 4 [9], .n 5 [121], .n 6 [122], .n 7 [120, 123], .n 8 [117], .n 9 [125], .w 10 [126, 124] []]; (focus kernel_rfl); (focus (simp [go_sem, hd3, w1, hs, List.length_append]; exact ⟨rfl, rfl⟩)); try dsimp only [thn, inBlk])
            | fail)
          refine ⟨t.line.length - (d + 1), by omega, d + 1, by omega, rfl, ?_, rfl⟩
          rw [rub_kill, hf]
          simp [go_sem]
        · have hd3 : ¬ (d : Int) < t.line.length := by omega
          obtain rfl : d = t.line.length := by omega
          have c4 := k1.obj
          have k2 := k1.set (.row [.string ⟨[].toArray⟩, .int .u8 b.toNat, .int .i64 t.stops] 37 3 true false)
          generalize hf : (List.replicate t.line.length [(8 : UInt8), 32, 8]).flatten = fl at *
          (repeat' first
            | refine AWP.seq ?_
            | refine AWP.block ?_
            | (refine AWP.skip ?_; try dsimp only [thn, inBlk])
            | (refine AWP.exit ?_; try simp only [thn, inBlk, if_true])
            | (refine AWP.ret ?_; try dsimp only [thn, inBlk])
            | (refine AWP.condT ?_ ?_; (focus (simp [go_sem, hd3, c4, w0]; done)))
            | (refine AWP.condF ?_ ?_; (focus (simp [go_sem, hd3, c4, w0]; done)))
            | (apply AWP.rE; (focus (simp [go_sem, hd3, c4, w0]; exact ⟨rfl, rfl⟩)); try dsimp only [thn, inBlk])
            | (apply AWP.dE hmix [.n 0 [1], .n 1 [8], .n 2 [20, 21], .n 3 [22], .n 4 [0], .n 5 [24], .n 6 [25], .n 7 [26], .n 8 [23], .n 9 [27]]; (focus kernel_rfl); (focus (simp [go_sem, hd3, c4, w0]; exact ⟨rfl, rfl⟩)); try dsimp only [thn, inBlk])
            | (apply AWP.dE hmix [.n 0 [0], .n 1 [117], .n 2 [118], .n 3 [119], .n 4 [9], .n 5 [121], .n 6 [122], .n 7 [120, 123], .n 8 [117], .n 9 [125], .w 10 [126, 124] []]; (focus kernel_rfl); (focus (simp [go_sem, hd3, c4, w0]; exact ⟨rfl, rfl⟩)); try dsimp only [thn, inBlk])
            | fail)
          refine step _ (an2 := an) (cn2 := cn) rfl e13 ?_ k2
          simp [go_sem, Pt.kill, hf]
    rw [if_neg h21] at step
    have n21 : ((b.toNat : Int) == 21) = false := neI (d := 21) h21
    by_cases h3 : b = 3
    · have t3 : ((b.toNat : Int) == 3) = true := by rw [h3]; rfl
      rw [if_pos h3] at step
      have w1 : IntKind.i64.wrap ((t.stops : Int) + 1) = t.stops + 1 := wI64 (by omega) (by omega)
      have hs : t.shown.length + 4 ≤ 9223372036854775807 := by omega
      have k2 := (k1.set (.row [.string ⟨[].toArray⟩, .int .u8 b.toNat, .int .i64 t.stops] 37 3 true false)).set (.row [.string ⟨[].toArray⟩, .int .u8 b.toNat, .int .i64 (t.stops + 1 : Nat)] 37 3 true false)
      (repeat' first
        | refine AWP.seq ?_
        | refine AWP.block ?_
        | (refine AWP.skip ?_; try dsimp only [thn, inBlk])
        | (refine AWP.exit ?_; try simp only [thn, inBlk, if_true])
        | (refine AWP.ret ?_; try dsimp only [thn, inBlk])
        | (refine AWP.condT ?_ ?_; (focus (simp [go_sem, hj3, q1, q2, q3, c1, w0, w1, hs, n13, n10, n8, n127, n21, t3]; done)))
        | (refine AWP.condF ?_ ?_; (focus (simp [go_sem, hj3, q1, q2, q3, c1, w0, w1, hs, n13, n10, n8, n127, n21, t3]; done)))
        | (apply AWP.rE; (focus (simp [go_sem, hj3, q1, q2, q3, c1, w0, w1, hs, n13, n10, n8, n127, n21, t3]; exact ⟨rfl, rfl⟩)); try dsimp only [thn, inBlk])
        | (apply AWP.dE hmix [.n 0 [1], .n 1 [8], .n 2 [20, 21], .n 3 [22], .n 4 [0], .n 5 [24], .n 6 [25], .n 7 [26], .n 8 [23], .n 9 [27]]; (focus kernel_rfl); (focus (simp [go_sem, hj3, q1, q2, q3, c1, w0, w1, hs, n13, n10, n8, n127, n21, t3]; exact ⟨rfl, rfl⟩)); try dsimp only [thn, inBlk])
        | (apply AWP.dE hmix [.n 0 [0], .n 1 [117], .n 2 [118], .n 3 [119], .n 4 [9], .n 5 [121], .n 6 [122], .n 7 [120, 123], .n 8 [117], .n 9 [125], .w 10 [126, 124] []]; (focus kernel_rfl); (focus (simp [go_sem, hj3, q1, q2, q3, c1, w0, w1, hs, n13, n10, n8, n127, n21, t3]; exact ⟨rfl, rfl⟩)); try dsimp only [thn, inBlk])
        | fail)
      refine step _ (an2 := an) (cn2 := cn) rfl e13 ?_ k2
      simp [go_sem, Pt.stop]
    rw [if_neg h3] at step
    have n3 : ((b.toNat : Int) == 3) = false := neI (d := 3) h3
    by_cases h1 : b < 32
    · have h1n : b.toNat < 32 := UInt8.lt_iff_toNat_lt.1 h1
      have g1 : ¬ (32 : Int) ≤ b.toNat := by omega
      have er : Pt.plain b { t with entered := false } = { t with entered := false } := by rw [Pt.plain, if_pos (.inl h1)]
      (repeat' first
        | refine AWP.seq ?_
        | refine AWP.block ?_
        | (refine AWP.skip ?_; try dsimp only [thn, inBlk])
        | (refine AWP.exit ?_; try simp only [thn, inBlk, if_true])
        | (refine AWP.ret ?_; try dsimp only [thn, inBlk])
        | (refine AWP.condT ?_ ?_; (focus (simp [go_sem, hj3, q1, q2, q3, c1, w0, n13, n10, n8, n127, n21, n3, g1]; done)))
        | (refine AWP.condF ?_ ?_; (focus (simp [go_sem, hj3, q1, q2, q3, c1, w0, n13, n10, n8, n127, n21, n3, g1]; done)))
        | (apply AWP.rE; (focus (simp [go_sem, hj3, q1, q2, q3, c1, w0, n13, n10, n8, n127, n21, n3, g1]; exact ⟨rfl, rfl⟩)); try dsimp only [thn, inBlk])
        | (apply AWP.dE hmix [.n 0 [1], .n 1 [8], .n 2 [20, 21], .n 3 [22], .n 4 [0], .n 5 [24], .n 6 [25], .n 7 [26], .n 8 [23], .n 9 [27]]; (focus kernel_rfl); (focus (simp [go_sem, hj3, q1, q2, q3, c1, w0, n13, n10, n8, n127, n21, n3, g1]; exact ⟨rfl, rfl⟩)); try dsimp only [thn, inBlk])
        | (apply AWP.dE hmix [.n 0 [0], .n 1 [117], .n 2 [118], .n 3 [119], .n 4 [9], .n 5 [121], .n 6 [122], .n 7 [120, 123], .n 8 [117], .n 9 [125], .w 10 [126, 124] []]; (focus kernel_rfl); (focus (simp [go_sem, hj3, q1, q2, q3, c1, w0, n13, n10, n8, n127, n21, n3, g1]; exact ⟨rfl, rfl⟩)); try dsimp only [thn, inBlk])
        | fail)
      refine step _ (an2 := an) (cn2 := cn) er e13 ?_ k1
      simp [go_sem]
    have h1n : ¬ b.toNat < 32 := fun h => h1 (UInt8.lt_iff_toNat_lt.2 h)
    have g1 : (32 : Int) ≤ b.toNat := by omega
    by_cases h2 : 126 < b
    · have h2n : 126 < b.toNat := UInt8.lt_iff_toNat_lt.1 h2
      have g2 : ¬ (b.toNat : Int) ≤ 126 := by omega
      have er : Pt.plain b { t with entered := false } = { t with entered := false } := by rw [Pt.plain, if_pos (.inr h2)]
      (repeat' first
        | refine AWP.seq ?_
        | refine AWP.block ?_
        | (refine AWP.skip ?_; try dsimp only [thn, inBlk])
        | (refine AWP.exit ?_; try simp only [thn, inBlk, if_true])
        | (refine AWP.ret ?_; try dsimp only [thn, inBlk])
        | (refine AWP.condT ?_ ?_; (focus (simp [go_sem, hj3, q1, q2, q3, c1, w0, n13, n10, n8, n127, n21, n3, g1, g2]; done)))
        | (refine AWP.condF ?_ ?_; (focus (simp [go_sem, hj3, q1, q2, q3, c1, w0, n13, n10, n8, n127, n21, n3, g1, g2]; done)))
        | (apply AWP.rE; (focus (simp [go_sem, hj3, q1, q2, q3, c1, w0, n13, n10, n8, n127, n21, n3, g1, g2]; exact ⟨rfl, rfl⟩)); try dsimp only [thn, inBlk])
        | (apply AWP.dE hmix [.n 0 [1], .n 1 [8], .n 2 [20, 21], .n 3 [22], .n 4 [0], .n 5 [24], .n 6 [25], .n 7 [26], .n 8 [23], .n 9 [27]]; (focus kernel_rfl); (focus (simp [go_sem, hj3, q1, q2, q3, c1, w0, n13, n10, n8, n127, n21, n3, g1, g2]; exact ⟨rfl, rfl⟩)); try dsimp only [thn, inBlk])
        | (apply AWP.dE hmix [.n 0 [0], .n 1 [117], .n 2 [118], .n 3 [119], .n 4 [9], .n 5 [121], .n 6 [122], .n 7 [120, 123], .n 8 [117], .n 9 [125], .w 10 [126, 124] []]; (focus kernel_rfl); (focus (simp [go_sem, hj3, q1, q2, q3, c1, w0, n13, n10, n8, n127, n21, n3, g1, g2]; exact ⟨rfl, rfl⟩)); try dsimp only [thn, inBlk])
        | fail)
      refine step _ (an2 := an) (cn2 := cn) er e13 ?_ k1
      simp [go_sem]
    have h2n : ¬ 126 < b.toNat := fun h => h2 (UInt8.lt_iff_toNat_lt.2 h)
    have g2 : (b.toNat : Int) ≤ 126 := by omega
    by_cases h80 : 80 ≤ t.line.length
    · have g3 : ¬ (t.line.length : Int) < 80 := by omega
      have hs : t.shown.length + 1 ≤ 9223372036854775807 := by omega
      have er : Pt.plain b { t with entered := false } = { t with entered := false, shown := t.shown ++ [7] } := by rw [Pt.plain, if_neg (fun h => h.elim h1 h2), if_pos h80]
      (repeat' first
        | refine AWP.seq ?_
        | refine AWP.block ?_
        | (refine AWP.skip ?_; try dsimp only [thn, inBlk])
        | (refine AWP.exit ?_; try simp only [thn, inBlk, if_true])
        | (refine AWP.ret ?_; try dsimp only [thn, inBlk])
        | (refine AWP.condT ?_ ?_; (focus (simp [go_sem, hj3, q1, q2, q3, c1, w0, n13, n10, n8, n127, n21, n3, g1, g2, g3, hs]; done)))
        | (refine AWP.condF ?_ ?_; (focus (simp [go_sem, hj3, q1, q2, q3, c1, w0, n13, n10, n8, n127, n21, n3, g1, g2, g3, hs]; done)))
        | (apply AWP.rE; (focus (simp [go_sem, hj3, q1, q2, q3, c1, w0, n13, n10, n8, n127, n21, n3, g1, g2, g3, hs]; exact ⟨rfl, rfl⟩)); try dsimp only [thn, inBlk])
        | (apply AWP.dE hmix [.n 0 [1], .n 1 [8], .n 2 [20, 21], .n 3 [22], .n 4 [0], .n 5 [24], .n 6 [25], .n 7 [26], .n 8 [23], .n 9 [27]]; (focus kernel_rfl); (focus (simp [go_sem, hj3, q1, q2, q3, c1, w0, n13, n10, n8, n127, n21, n3, g1, g2, g3, hs]; exact ⟨rfl, rfl⟩)); try dsimp only [thn, inBlk])
        | (apply AWP.dE hmix [.n 0 [0], .n 1 [117], .n 2 [118], .n 3 [119], .n 4 [9], .n 5 [121], .n 6 [122], .n 7 [120, 123], .n 8 [117], .n 9 [125], .w 10 [126, 124] []]; (focus kernel_rfl); (focus (simp [go_sem, hj3, q1, q2, q3, c1, w0, n13, n10, n8, n127, n21, n3, g1, g2, g3, hs]; exact ⟨rfl, rfl⟩)); try dsimp only [thn, inBlk])
        | fail)
      refine step _ (an2 := an) (cn2 := cn) er e13 ?_ k1
      simp [go_sem]
    · have g3 : (t.line.length : Int) < 80 := by omega
      have hs : t.shown.length + 1 ≤ 9223372036854775807 := by omega
      have hs2 : t.line.length + 1 ≤ 9223372036854775807 := by omega
      have er : Pt.plain b { t with entered := false } = { t with entered := false, line := t.line ++ [b], shown := t.shown ++ [b] } := by rw [Pt.plain, if_neg (fun h => h.elim h1 h2), if_neg h80]
      have k2 := (((k1.push (.row [.int .u8 b.toNat] 5 1 true false)).b1.set (.row [.string ⟨(t.line ++ [b]).toArray⟩, .int .u8 b.toNat, .int .i64 t.stops] 37 3 true false)).d1.push (.row [.int .u8 b.toNat] 5 1 true false)).tail
      have c4 := (k1.push (.row [.int .u8 b.toNat] 5 1 true false)).b1.obj
      have st1 := strR_one (h'.set i (.row [.string ⟨t.line.toArray⟩, .int .u8 b.toNat, .int .i64 t.stops] 37 3 true false)) h'.next b rfl
      have st2 := strR_one (((h'.set i (.row [.string ⟨t.line.toArray⟩, .int .u8 b.toNat, .int .i64 t.stops] 37 3 true false)).push (.row [.int .u8 b.toNat] 5 1 true false)).set i (.row [.string ⟨(t.line ++ [b]).toArray⟩, .int .u8 b.toNat, .int .i64 t.stops] 37 3 true false)) (h'.next + 1) b rfl
      (repeat' first
        | refine AWP.seq ?_
        | refine AWP.block ?_
        | (refine AWP.skip ?_; try dsimp only [thn, inBlk])
        | (refine AWP.exit ?_; try simp only [thn, inBlk, if_true])
        | (refine AWP.ret ?_; try dsimp only [thn, inBlk])
        | (refine AWP.condT ?_ ?_; (focus (simp [go_sem, hj3, q1, q2, q3, c1, w0, n13, n10, n8, n127, n21, n3, g1, g2, g3, hs, hs2, st1, st2, c4]; done)))
        | (refine AWP.condF ?_ ?_; (focus (simp [go_sem, hj3, q1, q2, q3, c1, w0, n13, n10, n8, n127, n21, n3, g1, g2, g3, hs, hs2, st1, st2, c4]; done)))
        | (apply AWP.rE; (focus (simp [go_sem, hj3, q1, q2, q3, c1, w0, n13, n10, n8, n127, n21, n3, g1, g2, g3, hs, hs2, st1, st2, c4]; exact ⟨rfl, rfl⟩)); try dsimp only [thn, inBlk])
        | (apply AWP.dE hmix [.n 0 [1], .n 1 [8], .n 2 [20, 21], .n 3 [22], .n 4 [0], .n 5 [24], .n 6 [25], .n 7 [26], .n 8 [23], .n 9 [27]]; (focus kernel_rfl); (focus (simp [go_sem, hj3, q1, q2, q3, c1, w0, n13, n10, n8, n127, n21, n3, g1, g2, g3, hs, hs2, st1, st2, c4]; exact ⟨rfl, rfl⟩)); try dsimp only [thn, inBlk])
        | (apply AWP.dE hmix [.n 0 [0], .n 1 [117], .n 2 [118], .n 3 [119], .n 4 [9], .n 5 [121], .n 6 [122], .n 7 [120, 123], .n 8 [117], .n 9 [125], .w 10 [126, 124] []]; (focus kernel_rfl); (focus (simp [go_sem, hj3, q1, q2, q3, c1, w0, n13, n10, n8, n127, n21, n3, g1, g2, g3, hs, hs2, st1, st2, c4]; exact ⟨rfl, rfl⟩)); try dsimp only [thn, inBlk])
        | fail)
      refine step _ (an2 := an) (cn2 := cn) er e13 ?_ k2
      simp [go_sem]
end L21
