import Derived.Test.YtjjocbijmhmdkaaL18x
open Go Ab Go.Proofs
namespace L18
set_option autoImplicit false
set_option linter.unusedSimpArgs false
set_option linter.unusedVariables false
attribute [local irreducible] dcells
theorem dctrl_bad {D : List Dc} {d : List UInt8} (h : d.length ≠ 4) : dctrl D d = (21, D) := by
  rcases d with _ | ⟨b0, _ | ⟨b1, _ | ⟨b2, _ | ⟨b3, _ | ⟨b4, d⟩⟩⟩⟩⟩
  · rfl
  · rfl
  · rfl
  · rfl
  · simp at h
  · rfl
set_option maxHeartbeats 8000000 in
theorem dtake_calls {O : Old} {h : AHeap} {R : List Chunk} {b : Nat} {D : List Dc} {a : Option Addr} {cap : Nat} (f : Fr) (k : Own O h (dmux b D :: R)) (di : DI D) (hx : ∀ h, Own O h R → Bytes h (.slice a f.2.length cap) f.2) (hm : f.2.length ≤ 1000000000) (hC : ∀ c, (dg D c).c.length ≤ 1000000000) :
    ACalls Try.prog 24 #[ptr b, .agg #[.int .i64 f.1, .slice a f.2.length cap]] h fun r h' => r = .int .i64 (dtake D f).1 ∧ Own O h' (dmux b (dtake D f).2 :: R) := by
  obtain ⟨c, d⟩ := f
  change ∀ h, Own O h R → Bytes h (.slice a d.length cap) d at hx
  change d.length ≤ 1000000000 at hm
  have k1 := k.push (.row [.int .i64 c, .slice a d.length cap] 30 2 true false)
  have c1 := k1.obj
  refine ACalls.of_awp (args := [ptr b, .agg #[.int .i64 c, .slice a d.length cap]]) (n := 141) Try.func24 rfl rfl (by show 2 ≤ 141; omega) ?_
  by_cases h0 : c < 0
  · have e : dtake D (c, d) = (100, D) := by
      unfold dtake; rw [if_neg (by simp only; omega), if_pos (.inl h0)]
    rw [e]
    (repeat' first
      | refine AWP.seq ?_
      | refine AWP.block ?_
      | (refine AWP.skip ?_; try dsimp only [thn, inBlk])
      | (refine AWP.exit ?_; try simp only [thn, inBlk, if_true, reduceIte, Nat.reduceEqDiff])
      | (refine AWP.ret ?_; try dsimp only [thn, inBlk])
      | (refine AWP.condT ?_ ?_; (focus (simp [go_sem, c1, h0]; done)))
      | (refine AWP.condF ?_ ?_; (focus (simp [go_sem, c1, h0]; done)))
      | (apply AWP.rE; (focus (simp [go_sem, c1, h0]; exact ⟨rfl, rfl⟩)); try dsimp only [thn, inBlk])
      | (apply AWP.dE hmix [.n 0 [0], .n 1 [3], .n 2 [21], .n 3 [20], .n 4 [23], .n 5 [24, 22], .n 6 [25]]; (focus kernel_rfl); (focus (simp [go_sem, c1, h0]; exact ⟨rfl, rfl⟩)); try dsimp only [thn, inBlk])
      | (apply AWP.dE hmix [.n 0 [3], .n 1 [30], .n 2 [31], .n 3 [5], .n 4 [33], .n 5 [34], .n 6 [35], .n 7 [36], .n 8 [5], .n 9 [38], .n 10 [39], .n 11 [40], .n 12 [37, 41], .n 13 [42], .n 14 [32, 43]]; (focus kernel_rfl); (focus (simp [go_sem, c1, h0]; exact ⟨rfl, rfl⟩)); try dsimp only [thn, inBlk])
      | (apply AWP.dE hmix [.n 0 [0], .n 1 [6], .n 2 [99], .n 3 [100], .n 4 [98], .n 5 [102], .n 6 [103, 101], .n 7 [104]]; (focus kernel_rfl); (focus (simp [go_sem, c1, h0]; exact ⟨rfl, rfl⟩)); try dsimp only [thn, inBlk])
      | (apply AWP.dE hmix [.n 0 [6], .n 1 [116], .n 2 [117], .n 3 [118], .n 4 [119], .n 5 [6], .n 6 [121], .n 7 [122], .n 8 [123], .n 9 [120, 124], .n 10 [125]]; (focus kernel_rfl); (focus (simp [go_sem, c1, h0]; exact ⟨rfl, rfl⟩)); try dsimp only [thn, inBlk])
      | fail)
    simp [bodyQ, thn, inBlk, resA, resV, go_sem]
    exact k1.tail
  by_cases h5 : 4 < c
  · have e : dtake D (c, d) = (100, D) := by
      unfold dtake; rw [if_neg (by simp only; omega), if_pos (.inr (by simp only; omega))]
    rw [e]
    (repeat' first
      | refine AWP.seq ?_
      | refine AWP.block ?_
      | (refine AWP.skip ?_; try dsimp only [thn, inBlk])
      | (refine AWP.exit ?_; try simp only [thn, inBlk, if_true, reduceIte, Nat.reduceEqDiff])
      | (refine AWP.ret ?_; try dsimp only [thn, inBlk])
      | (refine AWP.condT ?_ ?_; (focus (simp [go_sem, c1, h0, h5]; done)))
      | (refine AWP.condF ?_ ?_; (focus (simp [go_sem, c1, h0, h5]; done)))
      | (apply AWP.rE; (focus (simp [go_sem, c1, h0, h5]; exact ⟨rfl, rfl⟩)); try dsimp only [thn, inBlk])
      | (apply AWP.dE hmix [.n 0 [0], .n 1 [3], .n 2 [21], .n 3 [20], .n 4 [23], .n 5 [24, 22], .n 6 [25]]; (focus kernel_rfl); (focus (simp [go_sem, c1, h0, h5]; exact ⟨rfl, rfl⟩)); try dsimp only [thn, inBlk])
      | (apply AWP.dE hmix [.n 0 [3], .n 1 [30], .n 2 [31], .n 3 [5], .n 4 [33], .n 5 [34], .n 6 [35], .n 7 [36], .n 8 [5], .n 9 [38], .n 10 [39], .n 11 [40], .n 12 [37, 41], .n 13 [42], .n 14 [32, 43]]; (focus kernel_rfl); (focus (simp [go_sem, c1, h0, h5]; exact ⟨rfl, rfl⟩)); try dsimp only [thn, inBlk])
      | (apply AWP.dE hmix [.n 0 [0], .n 1 [6], .n 2 [99], .n 3 [100], .n 4 [98], .n 5 [102], .n 6 [103, 101], .n 7 [104]]; (focus kernel_rfl); (focus (simp [go_sem, c1, h0, h5]; exact ⟨rfl, rfl⟩)); try dsimp only [thn, inBlk])
      | (apply AWP.dE hmix [.n 0 [6], .n 1 [116], .n 2 [117], .n 3 [118], .n 4 [119], .n 5 [6], .n 6 [121], .n 7 [122], .n 8 [123], .n 9 [120, 124], .n 10 [125]]; (focus kernel_rfl); (focus (simp [go_sem, c1, h0, h5]; exact ⟨rfl, rfl⟩)); try dsimp only [thn, inBlk])
      | fail)
    simp [bodyQ, thn, inBlk, resA, resV, go_sem]
    exact k1.tail
  by_cases h4 : c < 4
  · obtain ⟨n, rfl⟩ : ∃ n : Nat, c = n := ⟨c.toNat, by omega⟩
    have hn : n < 4 := by omega
    have e : dtake D (n, d) = if (dg D n).ended then (102, D) else if 1024 - ((dg D n).c.length - (dg D n).sd) < d.length then (101, D) else (0, D.set n { dg D n with c := (dg D n).c ++ d }) := by
      unfold dtake
      rw [if_neg (by simp only; omega), if_neg (by simp only; omega)]
      rfl
    rw [e]
    obtain ⟨ps, k4, kt⟩ := dmux_out hn k1.b1
    have f := k4.fd hn
    have fb := f.b
    have fl := d_len k4
    have c2 := kt.tail.tail.obj
    have g4 := f.d4
    have g6 := f.d6
    have g8 := f.d8
    have hc := hC n
    obtain ⟨_, _, ho3, ho4, ho5, _, _⟩ := di.at n
    cases he : (dg D n).ended <;> rw [he] at g8
    rotate_left
    · (repeat' first
        | refine AWP.seq ?_
        | refine AWP.block ?_
        | (refine AWP.skip ?_; try dsimp only [thn, inBlk])
        | (refine AWP.exit ?_; try simp only [thn, inBlk, if_true, reduceIte, Nat.reduceEqDiff])
        | (refine AWP.ret ?_; try dsimp only [thn, inBlk])
        | (refine AWP.condT ?_ ?_; (focus (simp [go_sem, c1, h0, h5, h4, c2, fl, fb, g8]; done)))
        | (refine AWP.condF ?_ ?_; (focus (simp [go_sem, c1, h0, h5, h4, c2, fl, fb, g8]; done)))
        | (apply AWP.rE; (focus (simp [go_sem, c1, h0, h5, h4, c2, fl, fb, g8]; exact ⟨rfl, rfl⟩)); try dsimp only [thn, inBlk])
        | (apply AWP.dE hmix [.n 0 [0], .n 1 [3], .n 2 [21], .n 3 [20], .n 4 [23], .n 5 [24, 22], .n 6 [25]]; (focus kernel_rfl); (focus (simp [go_sem, c1, h0, h5, h4, c2, fl, fb, g8]; exact ⟨rfl, rfl⟩)); try dsimp only [thn, inBlk])
        | (apply AWP.dE hmix [.n 0 [3], .n 1 [30], .n 2 [31], .n 3 [5], .n 4 [33], .n 5 [34], .n 6 [35], .n 7 [36], .n 8 [5], .n 9 [38], .n 10 [39], .n 11 [40], .n 12 [37, 41], .n 13 [42], .n 14 [32, 43]]; (focus kernel_rfl); (focus (simp [go_sem, c1, h0, h5, h4, c2, fl, fb, g8]; exact ⟨rfl, rfl⟩)); try dsimp only [thn, inBlk])
        | (apply AWP.dE hmix [.n 0 [0], .n 1 [6], .n 2 [99], .n 3 [100], .n 4 [98], .n 5 [102], .n 6 [103, 101], .n 7 [104]]; (focus kernel_rfl); (focus (simp [go_sem, c1, h0, h5, h4, c2, fl, fb, g8]; exact ⟨rfl, rfl⟩)); try dsimp only [thn, inBlk])
        | (apply AWP.dE hmix [.n 0 [6], .n 1 [116], .n 2 [117], .n 3 [118], .n 4 [119], .n 5 [6], .n 6 [121], .n 7 [122], .n 8 [123], .n 9 [120, 124], .n 10 [125]]; (focus kernel_rfl); (focus (simp [go_sem, c1, h0, h5, h4, c2, fl, fb, g8]; exact ⟨rfl, rfl⟩)); try dsimp only [thn, inBlk])
        | fail)
      simp [bodyQ, thn, inBlk, resA, resV, go_sem]
      exact k1.tail
    have w1 : IntKind.i64.wrap (((dg D n).c.length : Int) - ((dg D n).sd : Int)) = ((dg D n).c.length : Int) - ((dg D n).sd : Int) := wI64 (by omega) (by omega)
    have w2 : IntKind.i64.wrap (1024 - (((dg D n).c.length : Int) - ((dg D n).sd : Int))) = 1024 - (((dg D n).c.length : Int) - ((dg D n).sd : Int)) := wI64 (by omega) (by omega)
    by_cases hf : 1024 - ((dg D n).c.length - (dg D n).sd) < d.length
    · have hf2 : (1024 : Int) - (((dg D n).c.length : Int) - ((dg D n).sd : Int)) < (d.length : Int) := by omega
      (repeat' first
        | refine AWP.seq ?_
        | refine AWP.block ?_
        | (refine AWP.skip ?_; try dsimp only [thn, inBlk])
        | (refine AWP.exit ?_; try simp only [thn, inBlk, if_true, reduceIte, Nat.reduceEqDiff])
        | (refine AWP.ret ?_; try dsimp only [thn, inBlk])
        | (refine AWP.condT ?_ ?_; (focus (simp [go_sem, c1, h0, h5, h4, c2, fl, fb, g8, g4, g6, w1, w2, hf2]; done)))
        | (refine AWP.condF ?_ ?_; (focus (simp [go_sem, c1, h0, h5, h4, c2, fl, fb, g8, g4, g6, w1, w2, hf2]; done)))
        | (apply AWP.rE; (focus (simp [go_sem, c1, h0, h5, h4, c2, fl, fb, g8, g4, g6, w1, w2, hf2]; exact ⟨rfl, rfl⟩)); try dsimp only [thn, inBlk])
        | (apply AWP.dE hmix [.n 0 [0], .n 1 [3], .n 2 [21], .n 3 [20], .n 4 [23], .n 5 [24, 22], .n 6 [25]]; (focus kernel_rfl); (focus (simp [go_sem, c1, h0, h5, h4, c2, fl, fb, g8, g4, g6, w1, w2, hf2]; exact ⟨rfl, rfl⟩)); try dsimp only [thn, inBlk])
        | (apply AWP.dE hmix [.n 0 [3], .n 1 [30], .n 2 [31], .n 3 [5], .n 4 [33], .n 5 [34], .n 6 [35], .n 7 [36], .n 8 [5], .n 9 [38], .n 10 [39], .n 11 [40], .n 12 [37, 41], .n 13 [42], .n 14 [32, 43]]; (focus kernel_rfl); (focus (simp [go_sem, c1, h0, h5, h4, c2, fl, fb, g8, g4, g6, w1, w2, hf2]; exact ⟨rfl, rfl⟩)); try dsimp only [thn, inBlk])
        | (apply AWP.dE hmix [.n 0 [0], .n 1 [6], .n 2 [99], .n 3 [100], .n 4 [98], .n 5 [102], .n 6 [103, 101], .n 7 [104]]; (focus kernel_rfl); (focus (simp [go_sem, c1, h0, h5, h4, c2, fl, fb, g8, g4, g6, w1, w2, hf2]; exact ⟨rfl, rfl⟩)); try dsimp only [thn, inBlk])
        | (apply AWP.dE hmix [.n 0 [6], .n 1 [116], .n 2 [117], .n 3 [118], .n 4 [119], .n 5 [6], .n 6 [121], .n 7 [122], .n 8 [123], .n 9 [120, 124], .n 10 [125]]; (focus kernel_rfl); (focus (simp [go_sem, c1, h0, h5, h4, c2, fl, fb, g8, g4, g6, w1, w2, hf2]; exact ⟨rfl, rfl⟩)); try dsimp only [thn, inBlk])
        | fail)
      simp [bodyQ, thn, inBlk, resA, resV, go_sem, hf]
      exact k1.tail
    have hf2 : ¬ (1024 : Int) - (((dg D n).c.length : Int) - ((dg D n).sd : Int)) < (d.length : Int) := by omega
    have kn : Own O _ (ob 5 (.slice (some ⟨h.next + 1, 0, none⟩) 0 0) [] :: _) := (kt.push (.row [] 5 1 true false)).row_any (n := 0) rfl
    have c3 := kn.tail.tail.tail.obj
    have c3' := kn.tail.tail.tail.tail.rest.obj
    obtain ⟨a2, cap2, h2, e2, k2⟩ := kn.appB (P := Try.prog) (t := 28) (xt := 28) Try.underlying28 tsz5 tby5 tz5 nI28 kn.tail.tail.ob_bytes.src (by simp; omega)
    simp only [List.length_nil, Nat.zero_add, List.nil_append] at e2 k2
    have c4 := k2.tail.tail.tail.obj
    have c4' := k2.tail.tail.tail.tail.rest.obj
    obtain ⟨a3, cap3, h3, e3, k3⟩ := k2.appB (P := Try.prog) (t := 28) (xt := 28) Try.underlying28 tsz5 tby5 tz5 nI28 (hx _ k2.tail.tail.tail.tail.rest.tail).src (by omega)
    have c5 := k3.tail.tail.tail.obj
    have hl : (dg D n).c.length + d.length = ((dg D n).c ++ d).length := by simp
    have e4 := sd4 k4 hn ((dg D n).c ++ d) (a := a3) (cap := cap3) hl
    have k5 := k3.b3.set (drow (D.set n { dg D n with c := (dg D n).c ++ d }) (ps.set n ((qg ps n).1, (a3, cap3))))
    rw [hl] at k5
    have k6 := dmux_in hn k4 { dg D n with c := (dg D n).c ++ d } ((qg ps n).1, (a3, cap3)) k5.d3.p2.b1
    (repeat' first
      | refine AWP.seq ?_
      | refine AWP.block ?_
      | (refine AWP.skip ?_; try dsimp only [thn, inBlk])
      | (refine AWP.exit ?_; try simp only [thn, inBlk, if_true, reduceIte, Nat.reduceEqDiff])
      | (refine AWP.ret ?_; try dsimp only [thn, inBlk])
      | (refine AWP.condT ?_ ?_; (focus (simp [go_sem, c1, h0, h5, h4, c2, fl, fb, g8, g4, g6, w1, w2, hf2]; done)))
      | (refine AWP.condF ?_ ?_; (focus (simp [go_sem, c1, h0, h5, h4, c2, fl, fb, g8, g4, g6, w1, w2, hf2]; done)))
      | (apply AWP.rE; (focus (simp [go_sem, c1, h0, h5, h4, c2, fl, fb, g8, g4, g6, w1, w2, hf2]; exact ⟨rfl, rfl⟩)); try dsimp only [thn, inBlk])
      | (apply AWP.dE hmix [.n 0 [0], .n 1 [3], .n 2 [21], .n 3 [20], .n 4 [23], .n 5 [24, 22], .n 6 [25]]; (focus kernel_rfl); (focus (simp [go_sem, c1, h0, h5, h4, c2, fl, fb, g8, g4, g6, w1, w2, hf2]; exact ⟨rfl, rfl⟩)); try dsimp only [thn, inBlk])
      | (apply AWP.dE hmix [.n 0 [3], .n 1 [30], .n 2 [31], .n 3 [5], .n 4 [33], .n 5 [34], .n 6 [35], .n 7 [36], .n 8 [5], .n 9 [38], .n 10 [39], .n 11 [40], .n 12 [37, 41], .n 13 [42], .n 14 [32, 43]]; (focus kernel_rfl); (focus (simp [go_sem, c1, h0, h5, h4, c2, fl, fb, g8, g4, g6, w1, w2, hf2]; exact ⟨rfl, rfl⟩)); try dsimp only [thn, inBlk])
      | (apply AWP.dE hmix [.n 0 [0], .n 1 [6], .n 2 [99], .n 3 [100], .n 4 [98], .n 5 [102], .n 6 [103, 101], .n 7 [104]]; (focus kernel_rfl); (focus (simp [go_sem, c1, h0, h5, h4, c2, fl, fb, g8, g4, g6, w1, w2, hf2]; exact ⟨rfl, rfl⟩)); try dsimp only [thn, inBlk])
      | (apply AWP.dE hmix [.n 0 [6], .n 1 [116], .n 2 [117], .n 3 [118], .n 4 [119], .n 5 [6], .n 6 [121], .n 7 [122], .n 8 [123], .n 9 [120, 124], .n 10 [125]]; (focus kernel_rfl); (focus (simp [go_sem, c1, h0, h5, h4, c2, fl, fb, g8, g4, g6, w1, w2, hf2]; exact ⟨rfl, rfl⟩)); try dsimp only [thn, inBlk])
      | fail)
    refine AWP.draw hmix [.n 0 [5], .n 1 [], .n 2 [5], .n 3 [47], .n 4 [48], .n 5 [49], .n 7 [3], .n 8 [52], .w 6 [46, 50] [8], .w 9 [51, 53] [], .n 10 [45], .n 11 [55], .w 12 [56, 54] []] (by kernel_rfl) ?_
    refine awpD_writeR 8 (by rfl) (by rfl) (by simp [go_sem, c3, c3', c4, c4', fl, fb, g4, e2]; exact ⟨rfl, rfl, rfl⟩) (by rfl) (by rfl) (by simp [go_sem]) (by simp [go_sem, c3, c3', c4, c4', fl, fb, g4, e2]; exact ⟨rfl, rfl⟩) (by simp [still, go_sem, c3, c3', c4, c4', fl, fb, g4, e2]) ?_
    refine awpD_writeR 0 (by rfl) (by rfl) (by simp [go_sem, c3, c3', c4, c4', fl, fb, g4, e3]; exact ⟨rfl, rfl, rfl⟩) (by rfl) (by rfl) (by simp [go_sem]) (by simp [go_sem, c3, c3', c4, c4', fl, fb, g4, e3]; exact ⟨rfl, rfl⟩) (by simp [still, go_sem, c3, c3', c4, c4', fl, fb, g4, e3]) ?_
    refine awpD_writeR 2 (by rfl) (by rfl) (by simp [go_sem, c5, fl, fb, e4]; exact ⟨rfl, rfl, rfl⟩) (by rfl) (by rfl) (by simp [go_sem]) (by simp [go_sem, c5, fl, fb, e4]; exact ⟨rfl, rfl⟩) (by simp [still, go_sem, c5, fl, fb, e4]) ?_
    refine awpD_restR (by rfl) (by simp [go_sem]; exact ⟨rfl, rfl, rfl⟩) ?_; try dsimp only [thn, inBlk]
    (repeat' first
      | refine AWP.seq ?_
      | refine AWP.block ?_
      | (refine AWP.skip ?_; try dsimp only [thn, inBlk])
      | (refine AWP.exit ?_; try simp only [thn, inBlk, if_true, reduceIte, Nat.reduceEqDiff])
      | (refine AWP.ret ?_; try dsimp only [thn, inBlk])
      | (refine AWP.condT ?_ ?_; (focus (simp [go_sem]; done)))
      | (refine AWP.condF ?_ ?_; (focus (simp [go_sem]; done)))
      | (apply AWP.rE; (focus (simp [go_sem]; exact ⟨rfl, rfl⟩)); try dsimp only [thn, inBlk])
      | (apply AWP.dE hmix [.n 0 [0], .n 1 [3], .n 2 [21], .n 3 [20], .n 4 [23], .n 5 [24, 22], .n 6 [25]]; (focus kernel_rfl); (focus (simp [go_sem]; exact ⟨rfl, rfl⟩)); try dsimp only [thn, inBlk])
      | (apply AWP.dE hmix [.n 0 [3], .n 1 [30], .n 2 [31], .n 3 [5], .n 4 [33], .n 5 [34], .n 6 [35], .n 7 [36], .n 8 [5], .n 9 [38], .n 10 [39], .n 11 [40], .n 12 [37, 41], .n 13 [42], .n 14 [32, 43]]; (focus kernel_rfl); (focus (simp [go_sem]; exact ⟨rfl, rfl⟩)); try dsimp only [thn, inBlk])
      | (apply AWP.dE hmix [.n 0 [0], .n 1 [6], .n 2 [99], .n 3 [100], .n 4 [98], .n 5 [102], .n 6 [103, 101], .n 7 [104]]; (focus kernel_rfl); (focus (simp [go_sem]; exact ⟨rfl, rfl⟩)); try dsimp only [thn, inBlk])
      | (apply AWP.dE hmix [.n 0 [6], .n 1 [116], .n 2 [117], .n 3 [118], .n 4 [119], .n 5 [6], .n 6 [121], .n 7 [122], .n 8 [123], .n 9 [120, 124], .n 10 [125]]; (focus kernel_rfl); (focus (simp [go_sem]; exact ⟨rfl, rfl⟩)); try dsimp only [thn, inBlk])
      | fail)
    simp [bodyQ, thn, inBlk, resA, resV, go_sem, hf]
    exact k6.d1
  obtain rfl : c = 4 := by omega
  have e : dtake D (4, d) = dctrl D d := by simp [dtake]
  rw [e]
  by_cases hl : d.length = 4
  rotate_left
  · rw [dctrl_bad hl]
    have hl2 : ((d.length : Int) != 4) = true := by simp; omega
    (repeat' first
      | refine AWP.seq ?_
      | refine AWP.block ?_
      | (refine AWP.skip ?_; try dsimp only [thn, inBlk])
      | (refine AWP.exit ?_; try simp only [thn, inBlk, if_true, reduceIte, Nat.reduceEqDiff])
      | (refine AWP.ret ?_; try dsimp only [thn, inBlk])
      | (refine AWP.condT ?_ ?_; (focus (simp [go_sem, c1, hl2]; done)))
      | (refine AWP.condF ?_ ?_; (focus (simp [go_sem, c1, hl2]; done)))
      | (apply AWP.rE; (focus (simp [go_sem, c1, hl2]; exact ⟨rfl, rfl⟩)); try dsimp only [thn, inBlk])
      | (apply AWP.dE hmix [.n 0 [0], .n 1 [3], .n 2 [21], .n 3 [20], .n 4 [23], .n 5 [24, 22], .n 6 [25]]; (focus kernel_rfl); (focus (simp [go_sem, c1, hl2]; exact ⟨rfl, rfl⟩)); try dsimp only [thn, inBlk])
      | (apply AWP.dE hmix [.n 0 [3], .n 1 [30], .n 2 [31], .n 3 [5], .n 4 [33], .n 5 [34], .n 6 [35], .n 7 [36], .n 8 [5], .n 9 [38], .n 10 [39], .n 11 [40], .n 12 [37, 41], .n 13 [42], .n 14 [32, 43]]; (focus kernel_rfl); (focus (simp [go_sem, c1, hl2]; exact ⟨rfl, rfl⟩)); try dsimp only [thn, inBlk])
      | (apply AWP.dE hmix [.n 0 [0], .n 1 [6], .n 2 [99], .n 3 [100], .n 4 [98], .n 5 [102], .n 6 [103, 101], .n 7 [104]]; (focus kernel_rfl); (focus (simp [go_sem, c1, hl2]; exact ⟨rfl, rfl⟩)); try dsimp only [thn, inBlk])
      | (apply AWP.dE hmix [.n 0 [6], .n 1 [116], .n 2 [117], .n 3 [118], .n 4 [119], .n 5 [6], .n 6 [121], .n 7 [122], .n 8 [123], .n 9 [120, 124], .n 10 [125]]; (focus kernel_rfl); (focus (simp [go_sem, c1, hl2]; exact ⟨rfl, rfl⟩)); try dsimp only [thn, inBlk])
      | fail)
    simp [bodyQ, thn, inBlk, resA, resV, go_sem]
    exact k1.tail
  obtain ⟨y0, y1, y2, y3, rfl⟩ : ∃ y0 y1 y2 y3, d = [y0, y1, y2, y3] := by
    rcases d with _ | ⟨y0, _ | ⟨y1, _ | ⟨y2, _ | ⟨y3, _ | ⟨y4, d⟩⟩⟩⟩⟩ <;> simp at hl
    exact ⟨_, _, _, _, rfl⟩
  have k1 : Own O (h.push (.row [.int .i64 4, .slice a 4 cap] 30 2 true false)) (cell h.next (.row [.int .i64 4, .slice a 4 cap] 30 2 true false) :: dmux b D :: R) := k1
  have c1 := k1.obj
  have hv := hx _ k1.tail.tail
  obtain ⟨i0, o0, r0, e0, z0, ti0, ro0, p0, q0, g0⟩ := hv.at (P := Try.prog) (t := 28) Try.underlying28 tsz5 (j := 0) (by simp) (kd := .i64)
  obtain ⟨i1, o1, r1, e1, z1, ti1, ro1, p1, q1, g1⟩ := hv.at (P := Try.prog) (t := 28) Try.underlying28 tsz5 (j := 1) (by simp) (kd := .i64)
  obtain ⟨i2, o2, r2, e2, z2, ti2, ro2, p2, q2, g2⟩ := hv.at (P := Try.prog) (t := 28) Try.underlying28 tsz5 (j := 2) (by simp) (kd := .i64)
  obtain ⟨i3, o3, r3, e3, z3, ti3, ro3, p3, q3, g3⟩ := hv.at (P := Try.prog) (t := 28) Try.underlying28 tsz5 (j := 3) (by simp) (kd := .i64)
  have p0' : indexAddrP Try.prog 28 (.slice a 4 cap) (.int .i64 0) = some (.pointer (some ⟨i0, o0, none⟩)) := p0
  have p1' : indexAddrP Try.prog 28 (.slice a 4 cap) (.int .i64 1) = some (.pointer (some ⟨i1, o1, none⟩)) := p1
  have p2' : indexAddrP Try.prog 28 (.slice a 4 cap) (.int .i64 2) = some (.pointer (some ⟨i2, o2, none⟩)) := p2
  have p3' : indexAddrP Try.prog 28 (.slice a 4 cap) (.int .i64 3) = some (.pointer (some ⟨i3, o3, none⟩)) := p3
  simp only [List.getElem_cons_zero, List.getElem_cons_succ] at g0 g1 g2 g3
  have l2 := y2.toNat_lt
  have l3 := y3.toNat_lt
  by_cases ha : y0.toNat < 1
  · have ha' : (y0.toNat : Int) < 1 := by omega
    have e : dctrl D [y0, y1, y2, y3] = (21, D) := by
      have h1 : ¬ y0.toNat = 1 := by omega
      have h2 : ¬ y0.toNat = 2 := by omega
      simp [dctrl, h1, h2]
    rw [e]
    (repeat' first
      | refine AWP.seq ?_
      | refine AWP.block ?_
      | (refine AWP.skip ?_; try dsimp only [thn, inBlk])
      | (refine AWP.exit ?_; try simp only [thn, inBlk, if_true, reduceIte, Nat.reduceEqDiff])
      | (refine AWP.ret ?_; try dsimp only [thn, inBlk])
      | (refine AWP.condT ?_ ?_; (focus (simp [go_sem, c1, p0', q0, g0, ha']; done)))
      | (refine AWP.condF ?_ ?_; (focus (simp [go_sem, c1, p0', q0, g0, ha']; done)))
      | (apply AWP.rE; (focus (simp [go_sem, c1, p0', q0, g0, ha']; exact ⟨rfl, rfl⟩)); try dsimp only [thn, inBlk])
      | (apply AWP.dE hmix [.n 0 [0], .n 1 [3], .n 2 [21], .n 3 [20], .n 4 [23], .n 5 [24, 22], .n 6 [25]]; (focus kernel_rfl); (focus (simp [go_sem, c1, p0', q0, g0, ha']; exact ⟨rfl, rfl⟩)); try dsimp only [thn, inBlk])
      | (apply AWP.dE hmix [.n 0 [3], .n 1 [30], .n 2 [31], .n 3 [5], .n 4 [33], .n 5 [34], .n 6 [35], .n 7 [36], .n 8 [5], .n 9 [38], .n 10 [39], .n 11 [40], .n 12 [37, 41], .n 13 [42], .n 14 [32, 43]]; (focus kernel_rfl); (focus (simp [go_sem, c1, p0', q0, g0, ha']; exact ⟨rfl, rfl⟩)); try dsimp only [thn, inBlk])
      | (apply AWP.dE hmix [.n 0 [0], .n 1 [6], .n 2 [99], .n 3 [100], .n 4 [98], .n 5 [102], .n 6 [103, 101], .n 7 [104]]; (focus kernel_rfl); (focus (simp [go_sem, c1, p0', q0, g0, ha']; exact ⟨rfl, rfl⟩)); try dsimp only [thn, inBlk])
      | (apply AWP.dE hmix [.n 0 [6], .n 1 [116], .n 2 [117], .n 3 [118], .n 4 [119], .n 5 [6], .n 6 [121], .n 7 [122], .n 8 [123], .n 9 [120, 124], .n 10 [125]]; (focus kernel_rfl); (focus (simp [go_sem, c1, p0', q0, g0, ha']; exact ⟨rfl, rfl⟩)); try dsimp only [thn, inBlk])
      | fail)
    simp [bodyQ, thn, inBlk, resA, resV, go_sem]
    exact k1.tail
  have ha' : ¬ (y0.toNat : Int) < 1 := by omega
  by_cases hb : 2 < y0.toNat
  · have hb' : (2 : Int) < (y0.toNat : Int) := by omega
    have e : dctrl D [y0, y1, y2, y3] = (21, D) := by
      have h1 : ¬ y0.toNat = 1 := by omega
      have h2 : ¬ y0.toNat = 2 := by omega
      simp [dctrl, h1, h2]
    rw [e]
    (repeat' first
      | refine AWP.seq ?_
      | refine AWP.block ?_
      | (refine AWP.skip ?_; try dsimp only [thn, inBlk])
      | (refine AWP.exit ?_; try simp only [thn, inBlk, if_true, reduceIte, Nat.reduceEqDiff])
      | (refine AWP.ret ?_; try dsimp only [thn, inBlk])
      | (refine AWP.condT ?_ ?_; (focus (simp [go_sem, c1, p0', q0, g0, ha', hb']; done)))
      | (refine AWP.condF ?_ ?_; (focus (simp [go_sem, c1, p0', q0, g0, ha', hb']; done)))
      | (apply AWP.rE; (focus (simp [go_sem, c1, p0', q0, g0, ha', hb']; exact ⟨rfl, rfl⟩)); try dsimp only [thn, inBlk])
      | (apply AWP.dE hmix [.n 0 [0], .n 1 [3], .n 2 [21], .n 3 [20], .n 4 [23], .n 5 [24, 22], .n 6 [25]]; (focus kernel_rfl); (focus (simp [go_sem, c1, p0', q0, g0, ha', hb']; exact ⟨rfl, rfl⟩)); try dsimp only [thn, inBlk])
      | (apply AWP.dE hmix [.n 0 [3], .n 1 [30], .n 2 [31], .n 3 [5], .n 4 [33], .n 5 [34], .n 6 [35], .n 7 [36], .n 8 [5], .n 9 [38], .n 10 [39], .n 11 [40], .n 12 [37, 41], .n 13 [42], .n 14 [32, 43]]; (focus kernel_rfl); (focus (simp [go_sem, c1, p0', q0, g0, ha', hb']; exact ⟨rfl, rfl⟩)); try dsimp only [thn, inBlk])
      | (apply AWP.dE hmix [.n 0 [0], .n 1 [6], .n 2 [99], .n 3 [100], .n 4 [98], .n 5 [102], .n 6 [103, 101], .n 7 [104]]; (focus kernel_rfl); (focus (simp [go_sem, c1, p0', q0, g0, ha', hb']; exact ⟨rfl, rfl⟩)); try dsimp only [thn, inBlk])
      | (apply AWP.dE hmix [.n 0 [6], .n 1 [116], .n 2 [117], .n 3 [118], .n 4 [119], .n 5 [6], .n 6 [121], .n 7 [122], .n 8 [123], .n 9 [120, 124], .n 10 [125]]; (focus kernel_rfl); (focus (simp [go_sem, c1, p0', q0, g0, ha', hb']; exact ⟨rfl, rfl⟩)); try dsimp only [thn, inBlk])
      | fail)
    simp [bodyQ, thn, inBlk, resA, resV, go_sem]
    exact k1.tail
  have hb' : ¬ (2 : Int) < (y0.toNat : Int) := by omega
  by_cases hc1 : 3 < y1.toNat
  · have hc1' : (3 : Int) < (y1.toNat : Int) := by omega
    have e : dctrl D [y0, y1, y2, y3] = (21, D) := by
      have h1 : 4 ≤ y1.toNat := by omega
      simp [dctrl, h1]
    rw [e]
    (repeat' first
      | refine AWP.seq ?_
      | refine AWP.block ?_
      | (refine AWP.skip ?_; try dsimp only [thn, inBlk])
      | (refine AWP.exit ?_; try simp only [thn, inBlk, if_true, reduceIte, Nat.reduceEqDiff])
      | (refine AWP.ret ?_; try dsimp only [thn, inBlk])
      | (refine AWP.condT ?_ ?_; (focus (simp [go_sem, c1, p0', q0, g0, ha', hb', p1', q1, g1, hc1']; done)))
      | (refine AWP.condF ?_ ?_; (focus (simp [go_sem, c1, p0', q0, g0, ha', hb', p1', q1, g1, hc1']; done)))
      | (apply AWP.rE; (focus (simp [go_sem, c1, p0', q0, g0, ha', hb', p1', q1, g1, hc1']; exact ⟨rfl, rfl⟩)); try dsimp only [thn, inBlk])
      | (apply AWP.dE hmix [.n 0 [0], .n 1 [3], .n 2 [21], .n 3 [20], .n 4 [23], .n 5 [24, 22], .n 6 [25]]; (focus kernel_rfl); (focus (simp [go_sem, c1, p0', q0, g0, ha', hb', p1', q1, g1, hc1']; exact ⟨rfl, rfl⟩)); try dsimp only [thn, inBlk])
      | (apply AWP.dE hmix [.n 0 [3], .n 1 [30], .n 2 [31], .n 3 [5], .n 4 [33], .n 5 [34], .n 6 [35], .n 7 [36], .n 8 [5], .n 9 [38], .n 10 [39], .n 11 [40], .n 12 [37, 41], .n 13 [42], .n 14 [32, 43]]; (focus kernel_rfl); (focus (simp [go_sem, c1, p0', q0, g0, ha', hb', p1', q1, g1, hc1']; exact ⟨rfl, rfl⟩)); try dsimp only [thn, inBlk])
      | (apply AWP.dE hmix [.n 0 [0], .n 1 [6], .n 2 [99], .n 3 [100], .n 4 [98], .n 5 [102], .n 6 [103, 101], .n 7 [104]]; (focus kernel_rfl); (focus (simp [go_sem, c1, p0', q0, g0, ha', hb', p1', q1, g1, hc1']; exact ⟨rfl, rfl⟩)); try dsimp only [thn, inBlk])
      | (apply AWP.dE hmix [.n 0 [6], .n 1 [116], .n 2 [117], .n 3 [118], .n 4 [119], .n 5 [6], .n 6 [121], .n 7 [122], .n 8 [123], .n 9 [120, 124], .n 10 [125]]; (focus kernel_rfl); (focus (simp [go_sem, c1, p0', q0, g0, ha', hb', p1', q1, g1, hc1']; exact ⟨rfl, rfl⟩)); try dsimp only [thn, inBlk])
      | fail)
    simp [bodyQ, thn, inBlk, resA, resV, go_sem]
    exact k1.tail
  have hc1' : ¬ (3 : Int) < (y1.toNat : Int) := by omega
  have hn : y1.toNat < 4 := by omega
  have hn4 : ¬ 4 ≤ y1.toNat := by omega
  have hi : (y1.toNat : Int) < 4 := by omega
  obtain ⟨ps, k4, kt⟩ := dmux_iff.1 k1.b1
  have f := k4.fd hn
  have fb := f.b
  have fl := d_len k4
  have c2 := kt.obj
  have g7 := f.d7
  have g8 := f.d8
  obtain ⟨_, _, _, _, _, ho6, ho7⟩ := di.at y1.toNat
  by_cases h2 : y0.toNat = 2
  · have h1 : ¬ y0.toNat = 1 := by omega
    have h2' : ((y0.toNat : Int) == 2) = true := by rw [h2]; rfl
    by_cases hy2 : y2.toNat = 0
    rotate_left
    · have hy2' : ((y2.toNat : Int) != 0) = true := by simp; omega
      have e : dctrl D [y0, y1, y2, y3] = (21, D) := by
        have : ¬ 256 * y2.toNat + y3.toNat = 0 := by omega
        simp only [dctrl]
        rw [if_neg hn4, if_neg h1, if_pos (.inr this)]
      rw [e]
      (repeat' first
        | refine AWP.seq ?_
        | refine AWP.block ?_
        | (refine AWP.skip ?_; try dsimp only [thn, inBlk])
        | (refine AWP.exit ?_; try simp only [thn, inBlk, if_true, reduceIte, Nat.reduceEqDiff])
        | (refine AWP.ret ?_; try dsimp only [thn, inBlk])
        | (refine AWP.condT ?_ ?_; (focus (simp [go_sem, c1, p0', q0, g0, ha', hb', p1', q1, g1, hc1', h2', p2', q2, g2, hy2']; done)))
        | (refine AWP.condF ?_ ?_; (focus (simp [go_sem, c1, p0', q0, g0, ha', hb', p1', q1, g1, hc1', h2', p2', q2, g2, hy2']; done)))
        | (apply AWP.rE; (focus (simp [go_sem, c1, p0', q0, g0, ha', hb', p1', q1, g1, hc1', h2', p2', q2, g2, hy2']; exact ⟨rfl, rfl⟩)); try dsimp only [thn, inBlk])
        | (apply AWP.dE hmix [.n 0 [0], .n 1 [3], .n 2 [21], .n 3 [20], .n 4 [23], .n 5 [24, 22], .n 6 [25]]; (focus kernel_rfl); (focus (simp [go_sem, c1, p0', q0, g0, ha', hb', p1', q1, g1, hc1', h2', p2', q2, g2, hy2']; exact ⟨rfl, rfl⟩)); try dsimp only [thn, inBlk])
        | (apply AWP.dE hmix [.n 0 [3], .n 1 [30], .n 2 [31], .n 3 [5], .n 4 [33], .n 5 [34], .n 6 [35], .n 7 [36], .n 8 [5], .n 9 [38], .n 10 [39], .n 11 [40], .n 12 [37, 41], .n 13 [42], .n 14 [32, 43]]; (focus kernel_rfl); (focus (simp [go_sem, c1, p0', q0, g0, ha', hb', p1', q1, g1, hc1', h2', p2', q2, g2, hy2']; exact ⟨rfl, rfl⟩)); try dsimp only [thn, inBlk])
        | (apply AWP.dE hmix [.n 0 [0], .n 1 [6], .n 2 [99], .n 3 [100], .n 4 [98], .n 5 [102], .n 6 [103, 101], .n 7 [104]]; (focus kernel_rfl); (focus (simp [go_sem, c1, p0', q0, g0, ha', hb', p1', q1, g1, hc1', h2', p2', q2, g2, hy2']; exact ⟨rfl, rfl⟩)); try dsimp only [thn, inBlk])
        | (apply AWP.dE hmix [.n 0 [6], .n 1 [116], .n 2 [117], .n 3 [118], .n 4 [119], .n 5 [6], .n 6 [121], .n 7 [122], .n 8 [123], .n 9 [120, 124], .n 10 [125]]; (focus kernel_rfl); (focus (simp [go_sem, c1, p0', q0, g0, ha', hb', p1', q1, g1, hc1', h2', p2', q2, g2, hy2']; exact ⟨rfl, rfl⟩)); try dsimp only [thn, inBlk])
        | fail)
      simp [bodyQ, thn, inBlk, resA, resV, go_sem]
      exact k1.tail
    have hy2' : ((y2.toNat : Int) != 0) = false := by rw [hy2]; rfl
    by_cases hy3 : y3.toNat = 0
    rotate_left
    · have hy3' : ((y3.toNat : Int) != 0) = true := by simp; omega
      have e : dctrl D [y0, y1, y2, y3] = (21, D) := by
        have : ¬ 256 * y2.toNat + y3.toNat = 0 := by omega
        simp only [dctrl]
        rw [if_neg hn4, if_neg h1, if_pos (.inr this)]
      rw [e]
      (repeat' first
        | refine AWP.seq ?_
        | refine AWP.block ?_
        | (refine AWP.skip ?_; try dsimp only [thn, inBlk])
        | (refine AWP.exit ?_; try simp only [thn, inBlk, if_true, reduceIte, Nat.reduceEqDiff])
        | (refine AWP.ret ?_; try dsimp only [thn, inBlk])
        | (refine AWP.condT ?_ ?_; (focus (simp [go_sem, c1, p0', q0, g0, ha', hb', p1', q1, g1, hc1', h2', p2', q2, g2, hy2', p3', q3, g3, hy3']; done)))
        | (refine AWP.condF ?_ ?_; (focus (simp [go_sem, c1, p0', q0, g0, ha', hb', p1', q1, g1, hc1', h2', p2', q2, g2, hy2', p3', q3, g3, hy3']; done)))
        | (apply AWP.rE; (focus (simp [go_sem, c1, p0', q0, g0, ha', hb', p1', q1, g1, hc1', h2', p2', q2, g2, hy2', p3', q3, g3, hy3']; exact ⟨rfl, rfl⟩)); try dsimp only [thn, inBlk])
        | (apply AWP.dE hmix [.n 0 [0], .n 1 [3], .n 2 [21], .n 3 [20], .n 4 [23], .n 5 [24, 22], .n 6 [25]]; (focus kernel_rfl); (focus (simp [go_sem, c1, p0', q0, g0, ha', hb', p1', q1, g1, hc1', h2', p2', q2, g2, hy2', p3', q3, g3, hy3']; exact ⟨rfl, rfl⟩)); try dsimp only [thn, inBlk])
        | (apply AWP.dE hmix [.n 0 [3], .n 1 [30], .n 2 [31], .n 3 [5], .n 4 [33], .n 5 [34], .n 6 [35], .n 7 [36], .n 8 [5], .n 9 [38], .n 10 [39], .n 11 [40], .n 12 [37, 41], .n 13 [42], .n 14 [32, 43]]; (focus kernel_rfl); (focus (simp [go_sem, c1, p0', q0, g0, ha', hb', p1', q1, g1, hc1', h2', p2', q2, g2, hy2', p3', q3, g3, hy3']; exact ⟨rfl, rfl⟩)); try dsimp only [thn, inBlk])
        | (apply AWP.dE hmix [.n 0 [0], .n 1 [6], .n 2 [99], .n 3 [100], .n 4 [98], .n 5 [102], .n 6 [103, 101], .n 7 [104]]; (focus kernel_rfl); (focus (simp [go_sem, c1, p0', q0, g0, ha', hb', p1', q1, g1, hc1', h2', p2', q2, g2, hy2', p3', q3, g3, hy3']; exact ⟨rfl, rfl⟩)); try dsimp only [thn, inBlk])
        | (apply AWP.dE hmix [.n 0 [6], .n 1 [116], .n 2 [117], .n 3 [118], .n 4 [119], .n 5 [6], .n 6 [121], .n 7 [122], .n 8 [123], .n 9 [120, 124], .n 10 [125]]; (focus kernel_rfl); (focus (simp [go_sem, c1, p0', q0, g0, ha', hb', p1', q1, g1, hc1', h2', p2', q2, g2, hy2', p3', q3, g3, hy3']; exact ⟨rfl, rfl⟩)); try dsimp only [thn, inBlk])
        | fail)
      simp [bodyQ, thn, inBlk, resA, resV, go_sem]
      exact k1.tail
    have hy3' : ((y3.toNat : Int) != 0) = false := by rw [hy3]; rfl
    cases he : (dg D y1.toNat).ended <;> rw [he] at g8
    · have e : dctrl D [y0, y1, y2, y3] = (0, D.set y1.toNat { dg D y1.toNat with ended := true }) := by simp [dctrl, hn4, h2, hy2, hy3, he]
      rw [e]
      have e8 := sd8 k4 hn true
      have k5 := kt.set (drow (D.set y1.toNat { dg D y1.toNat with ended := true }) ps)
      (repeat' first
        | refine AWP.seq ?_
        | refine AWP.block ?_
        | (refine AWP.skip ?_; try dsimp only [thn, inBlk])
        | (refine AWP.exit ?_; try simp only [thn, inBlk, if_true, reduceIte, Nat.reduceEqDiff])
        | (refine AWP.ret ?_; try dsimp only [thn, inBlk])
        | (refine AWP.condT ?_ ?_; (focus (simp [go_sem, c1, p0', q0, g0, ha', hb', p1', q1, g1, hc1', h2', p2', q2, g2, hy2', p3', q3, g3, hy3', c2, fl, fb, hi, g8, e8]; done)))
        | (refine AWP.condF ?_ ?_; (focus (simp [go_sem, c1, p0', q0, g0, ha', hb', p1', q1, g1, hc1', h2', p2', q2, g2, hy2', p3', q3, g3, hy3', c2, fl, fb, hi, g8, e8]; done)))
        | (apply AWP.rE; (focus (simp [go_sem, c1, p0', q0, g0, ha', hb', p1', q1, g1, hc1', h2', p2', q2, g2, hy2', p3', q3, g3, hy3', c2, fl, fb, hi, g8, e8]; exact ⟨rfl, rfl⟩)); try dsimp only [thn, inBlk])
        | (apply AWP.dE hmix [.n 0 [0], .n 1 [3], .n 2 [21], .n 3 [20], .n 4 [23], .n 5 [24, 22], .n 6 [25]]; (focus kernel_rfl); (focus (simp [go_sem, c1, p0', q0, g0, ha', hb', p1', q1, g1, hc1', h2', p2', q2, g2, hy2', p3', q3, g3, hy3', c2, fl, fb, hi, g8, e8]; exact ⟨rfl, rfl⟩)); try dsimp only [thn, inBlk])
        | (apply AWP.dE hmix [.n 0 [3], .n 1 [30], .n 2 [31], .n 3 [5], .n 4 [33], .n 5 [34], .n 6 [35], .n 7 [36], .n 8 [5], .n 9 [38], .n 10 [39], .n 11 [40], .n 12 [37, 41], .n 13 [42], .n 14 [32, 43]]; (focus kernel_rfl); (focus (simp [go_sem, c1, p0', q0, g0, ha', hb', p1', q1, g1, hc1', h2', p2', q2, g2, hy2', p3', q3, g3, hy3', c2, fl, fb, hi, g8, e8]; exact ⟨rfl, rfl⟩)); try dsimp only [thn, inBlk])
        | (apply AWP.dE hmix [.n 0 [0], .n 1 [6], .n 2 [99], .n 3 [100], .n 4 [98], .n 5 [102], .n 6 [103, 101], .n 7 [104]]; (focus kernel_rfl); (focus (simp [go_sem, c1, p0', q0, g0, ha', hb', p1', q1, g1, hc1', h2', p2', q2, g2, hy2', p3', q3, g3, hy3', c2, fl, fb, hi, g8, e8]; exact ⟨rfl, rfl⟩)); try dsimp only [thn, inBlk])
        | (apply AWP.dE hmix [.n 0 [6], .n 1 [116], .n 2 [117], .n 3 [118], .n 4 [119], .n 5 [6], .n 6 [121], .n 7 [122], .n 8 [123], .n 9 [120, 124], .n 10 [125]]; (focus kernel_rfl); (focus (simp [go_sem, c1, p0', q0, g0, ha', hb', p1', q1, g1, hc1', h2', p2', q2, g2, hy2', p3', q3, g3, hy3', c2, fl, fb, hi, g8, e8]; exact ⟨rfl, rfl⟩)); try dsimp only [thn, inBlk])
        | fail)
      simp [bodyQ, thn, inBlk, resA, resV, go_sem]
      exact (dmux_in' hn k4 { dg D y1.toNat with ended := true } rfl rfl k5).d1
    · have e : dctrl D [y0, y1, y2, y3] = (102, D) := by simp [dctrl, hn4, h2, hy2, hy3, he]
      rw [e]
      (repeat' first
        | refine AWP.seq ?_
        | refine AWP.block ?_
        | (refine AWP.skip ?_; try dsimp only [thn, inBlk])
        | (refine AWP.exit ?_; try simp only [thn, inBlk, if_true, reduceIte, Nat.reduceEqDiff])
        | (refine AWP.ret ?_; try dsimp only [thn, inBlk])
        | (refine AWP.condT ?_ ?_; (focus (simp [go_sem, c1, p0', q0, g0, ha', hb', p1', q1, g1, hc1', h2', p2', q2, g2, hy2', p3', q3, g3, hy3', c2, fl, fb, hi, g8]; done)))
        | (refine AWP.condF ?_ ?_; (focus (simp [go_sem, c1, p0', q0, g0, ha', hb', p1', q1, g1, hc1', h2', p2', q2, g2, hy2', p3', q3, g3, hy3', c2, fl, fb, hi, g8]; done)))
        | (apply AWP.rE; (focus (simp [go_sem, c1, p0', q0, g0, ha', hb', p1', q1, g1, hc1', h2', p2', q2, g2, hy2', p3', q3, g3, hy3', c2, fl, fb, hi, g8]; exact ⟨rfl, rfl⟩)); try dsimp only [thn, inBlk])
        | (apply AWP.dE hmix [.n 0 [0], .n 1 [3], .n 2 [21], .n 3 [20], .n 4 [23], .n 5 [24, 22], .n 6 [25]]; (focus kernel_rfl); (focus (simp [go_sem, c1, p0', q0, g0, ha', hb', p1', q1, g1, hc1', h2', p2', q2, g2, hy2', p3', q3, g3, hy3', c2, fl, fb, hi, g8]; exact ⟨rfl, rfl⟩)); try dsimp only [thn, inBlk])
        | (apply AWP.dE hmix [.n 0 [3], .n 1 [30], .n 2 [31], .n 3 [5], .n 4 [33], .n 5 [34], .n 6 [35], .n 7 [36], .n 8 [5], .n 9 [38], .n 10 [39], .n 11 [40], .n 12 [37, 41], .n 13 [42], .n 14 [32, 43]]; (focus kernel_rfl); (focus (simp [go_sem, c1, p0', q0, g0, ha', hb', p1', q1, g1, hc1', h2', p2', q2, g2, hy2', p3', q3, g3, hy3', c2, fl, fb, hi, g8]; exact ⟨rfl, rfl⟩)); try dsimp only [thn, inBlk])
        | (apply AWP.dE hmix [.n 0 [0], .n 1 [6], .n 2 [99], .n 3 [100], .n 4 [98], .n 5 [102], .n 6 [103, 101], .n 7 [104]]; (focus kernel_rfl); (focus (simp [go_sem, c1, p0', q0, g0, ha', hb', p1', q1, g1, hc1', h2', p2', q2, g2, hy2', p3', q3, g3, hy3', c2, fl, fb, hi, g8]; exact ⟨rfl, rfl⟩)); try dsimp only [thn, inBlk])
        | (apply AWP.dE hmix [.n 0 [6], .n 1 [116], .n 2 [117], .n 3 [118], .n 4 [119], .n 5 [6], .n 6 [121], .n 7 [122], .n 8 [123], .n 9 [120, 124], .n 10 [125]]; (focus kernel_rfl); (focus (simp [go_sem, c1, p0', q0, g0, ha', hb', p1', q1, g1, hc1', h2', p2', q2, g2, hy2', p3', q3, g3, hy3', c2, fl, fb, hi, g8]; exact ⟨rfl, rfl⟩)); try dsimp only [thn, inBlk])
        | fail)
      simp [bodyQ, thn, inBlk, resA, resV, go_sem]
      exact k1.tail
  have h1 : y0.toNat = 1 := by omega
  have h2' : ((y0.toNat : Int) == 2) = false := by rw [h1]; rfl
  have wx : IntKind.i64.wrap (y2.toNat : Int) = y2.toNat := wI64 (by omega) (by omega)
  have wy : IntKind.i64.wrap (y3.toNat : Int) = y3.toNat := wI64 (by omega) (by omega)
  have wsh : IntKind.i64.wrap (256 * (y2.toNat : Int)) = 256 * (y2.toNat : Int) := wI64 (by omega) (by omega)
  have wad : IntKind.i64.wrap (256 * (y2.toNat : Int) + (y3.toNat : Int)) = ((256 * y2.toNat + y3.toNat : Nat) : Int) := by rw [wI64 (by omega) (by omega)]; omega
  obtain ⟨n, hnn⟩ : ∃ n : Nat, n = 256 * y2.toNat + y3.toNat := ⟨_, rfl⟩
  rw [← hnn] at wad
  have wcr : IntKind.i64.wrap ((dg D y1.toNat).cr + (n : Int)) = (dg D y1.toNat).cr + (n : Int) := wI64 (by omega) (by omega)
  by_cases hcr : 1024 - (dg D y1.toNat).cr < n
  · have hcr' : (1024 : Int) < (dg D y1.toNat).cr + (n : Int) := by omega
    have e : dctrl D [y0, y1, y2, y3] = (101, D) := by simp [dctrl, hn4, h1, ← hnn, hcr]
    rw [e]
    (repeat' first
      | refine AWP.seq ?_
      | refine AWP.block ?_
      | (refine AWP.skip ?_; try dsimp only [thn, inBlk])
      | (refine AWP.exit ?_; try simp only [thn, inBlk, if_true, reduceIte, Nat.reduceEqDiff])
      | (refine AWP.ret ?_; try dsimp only [thn, inBlk])
      | (refine AWP.condT ?_ ?_; (focus (simp [go_sem, c1, p0', q0, g0, ha', hb', p1', q1, g1, hc1', h2', p2', q2, g2, p3', q3, g3, c2, fl, fb, hi, g7, wx, wy, wsh, wad, wcr, hcr']; done)))
      | (refine AWP.condF ?_ ?_; (focus (simp [go_sem, c1, p0', q0, g0, ha', hb', p1', q1, g1, hc1', h2', p2', q2, g2, p3', q3, g3, c2, fl, fb, hi, g7, wx, wy, wsh, wad, wcr, hcr']; done)))
      | (apply AWP.rE; (focus (simp [go_sem, c1, p0', q0, g0, ha', hb', p1', q1, g1, hc1', h2', p2', q2, g2, p3', q3, g3, c2, fl, fb, hi, g7, wx, wy, wsh, wad, wcr, hcr']; exact ⟨rfl, rfl⟩)); try dsimp only [thn, inBlk])
      | (apply AWP.dE hmix [.n 0 [0], .n 1 [3], .n 2 [21], .n 3 [20], .n 4 [23], .n 5 [24, 22], .n 6 [25]]; (focus kernel_rfl); (focus (simp [go_sem, c1, p0', q0, g0, ha', hb', p1', q1, g1, hc1', h2', p2', q2, g2, p3', q3, g3, c2, fl, fb, hi, g7, wx, wy, wsh, wad, wcr, hcr']; exact ⟨rfl, rfl⟩)); try dsimp only [thn, inBlk])
      | (apply AWP.dE hmix [.n 0 [3], .n 1 [30], .n 2 [31], .n 3 [5], .n 4 [33], .n 5 [34], .n 6 [35], .n 7 [36], .n 8 [5], .n 9 [38], .n 10 [39], .n 11 [40], .n 12 [37, 41], .n 13 [42], .n 14 [32, 43]]; (focus kernel_rfl); (focus (simp [go_sem, c1, p0', q0, g0, ha', hb', p1', q1, g1, hc1', h2', p2', q2, g2, p3', q3, g3, c2, fl, fb, hi, g7, wx, wy, wsh, wad, wcr, hcr']; exact ⟨rfl, rfl⟩)); try dsimp only [thn, inBlk])
      | (apply AWP.dE hmix [.n 0 [0], .n 1 [6], .n 2 [99], .n 3 [100], .n 4 [98], .n 5 [102], .n 6 [103, 101], .n 7 [104]]; (focus kernel_rfl); (focus (simp [go_sem, c1, p0', q0, g0, ha', hb', p1', q1, g1, hc1', h2', p2', q2, g2, p3', q3, g3, c2, fl, fb, hi, g7, wx, wy, wsh, wad, wcr, hcr']; exact ⟨rfl, rfl⟩)); try dsimp only [thn, inBlk])
      | (apply AWP.dE hmix [.n 0 [6], .n 1 [116], .n 2 [117], .n 3 [118], .n 4 [119], .n 5 [6], .n 6 [121], .n 7 [122], .n 8 [123], .n 9 [120, 124], .n 10 [125]]; (focus kernel_rfl); (focus (simp [go_sem, c1, p0', q0, g0, ha', hb', p1', q1, g1, hc1', h2', p2', q2, g2, p3', q3, g3, c2, fl, fb, hi, g7, wx, wy, wsh, wad, wcr, hcr']; exact ⟨rfl, rfl⟩)); try dsimp only [thn, inBlk])
      | fail)
    simp [bodyQ, thn, inBlk, resA, resV, go_sem]
    exact k1.tail
  · have hcr' : ¬ (1024 : Int) < (dg D y1.toNat).cr + (n : Int) := by omega
    have e : dctrl D [y0, y1, y2, y3] = (0, D.set y1.toNat { dg D y1.toNat with cr := (dg D y1.toNat).cr + n }) := by simp [dctrl, hn4, h1, ← hnn, hcr]
    rw [e]
    have e7 := sd7 k4 hn ((dg D y1.toNat).cr + n)
    have k5 := kt.set (drow (D.set y1.toNat { dg D y1.toNat with cr := (dg D y1.toNat).cr + n }) ps)
    (repeat' first
      | refine AWP.seq ?_
      | refine AWP.block ?_
      | (refine AWP.skip ?_; try dsimp only [thn, inBlk])
      | (refine AWP.exit ?_; try simp only [thn, inBlk, if_true, reduceIte, Nat.reduceEqDiff])
      | (refine AWP.ret ?_; try dsimp only [thn, inBlk])
      | (refine AWP.condT ?_ ?_; (focus (simp [go_sem, c1, p0', q0, g0, ha', hb', p1', q1, g1, hc1', h2', p2', q2, g2, p3', q3, g3, c2, fl, fb, hi, g7, wx, wy, wsh, wad, wcr, hcr', e7]; done)))
      | (refine AWP.condF ?_ ?_; (focus (simp [go_sem, c1, p0', q0, g0, ha', hb', p1', q1, g1, hc1', h2', p2', q2, g2, p3', q3, g3, c2, fl, fb, hi, g7, wx, wy, wsh, wad, wcr, hcr', e7]; done)))
      | (apply AWP.rE; (focus (simp [go_sem, c1, p0', q0, g0, ha', hb', p1', q1, g1, hc1', h2', p2', q2, g2, p3', q3, g3, c2, fl, fb, hi, g7, wx, wy, wsh, wad, wcr, hcr', e7]; exact ⟨rfl, rfl⟩)); try dsimp only [thn, inBlk])
      | (apply AWP.dE hmix [.n 0 [0], .n 1 [3], .n 2 [21], .n 3 [20], .n 4 [23], .n 5 [24, 22], .n 6 [25]]; (focus kernel_rfl); (focus (simp [go_sem, c1, p0', q0, g0, ha', hb', p1', q1, g1, hc1', h2', p2', q2, g2, p3', q3, g3, c2, fl, fb, hi, g7, wx, wy, wsh, wad, wcr, hcr', e7]; exact ⟨rfl, rfl⟩)); try dsimp only [thn, inBlk])
      | (apply AWP.dE hmix [.n 0 [3], .n 1 [30], .n 2 [31], .n 3 [5], .n 4 [33], .n 5 [34], .n 6 [35], .n 7 [36], .n 8 [5], .n 9 [38], .n 10 [39], .n 11 [40], .n 12 [37, 41], .n 13 [42], .n 14 [32, 43]]; (focus kernel_rfl); (focus (simp [go_sem, c1, p0', q0, g0, ha', hb', p1', q1, g1, hc1', h2', p2', q2, g2, p3', q3, g3, c2, fl, fb, hi, g7, wx, wy, wsh, wad, wcr, hcr', e7]; exact ⟨rfl, rfl⟩)); try dsimp only [thn, inBlk])
      | (apply AWP.dE hmix [.n 0 [0], .n 1 [6], .n 2 [99], .n 3 [100], .n 4 [98], .n 5 [102], .n 6 [103, 101], .n 7 [104]]; (focus kernel_rfl); (focus (simp [go_sem, c1, p0', q0, g0, ha', hb', p1', q1, g1, hc1', h2', p2', q2, g2, p3', q3, g3, c2, fl, fb, hi, g7, wx, wy, wsh, wad, wcr, hcr', e7]; exact ⟨rfl, rfl⟩)); try dsimp only [thn, inBlk])
      | (apply AWP.dE hmix [.n 0 [6], .n 1 [116], .n 2 [117], .n 3 [118], .n 4 [119], .n 5 [6], .n 6 [121], .n 7 [122], .n 8 [123], .n 9 [120, 124], .n 10 [125]]; (focus kernel_rfl); (focus (simp [go_sem, c1, p0', q0, g0, ha', hb', p1', q1, g1, hc1', h2', p2', q2, g2, p3', q3, g3, c2, fl, fb, hi, g7, wx, wy, wsh, wad, wcr, hcr', e7]; exact ⟨rfl, rfl⟩)); try dsimp only [thn, inBlk])
      | fail)
    simp [bodyQ, thn, inBlk, resA, resV, go_sem]
    exact (dmux_in' hn k4 { dg D y1.toNat with cr := (dg D y1.toNat).cr + n } rfl rfl k5).d1
end L18
