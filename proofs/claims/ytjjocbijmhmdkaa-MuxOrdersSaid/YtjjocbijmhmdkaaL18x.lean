import Derived.Test.YtjjocbijmhmdkaaL18w
open Go Ab Go.Proofs
namespace L18
set_option autoImplicit false
set_option linter.unusedSimpArgs false
set_option linter.unusedVariables false
attribute [local irreducible] dcells
set_option maxHeartbeats 1000000 in
theorem dwrite_calls {O : Old} {h : AHeap} {R : List Chunk} {b : Nat} {D : List Dc} {v : Value} {d : List UInt8} (k : Own O h (dmux b D :: R)) (di : DI D) (c : Int) (hx : ∀ h, Own O h R → Bytes h v d) (hd : d.length ≤ 1000000000) (hW : ∀ c, (dg D c).w.length ≤ 1000000000) :
    ACalls Try.prog 19 #[ptr b, .int .i64 c, v] h fun r h' => r = .int .i64 (dwrite D c d).1 ∧ Own O h' (dmux b (dwrite D c d).2 :: R) := by
  refine ACalls.of_awp (args := [ptr b, .int .i64 c, v]) (n := 48) Try.func19 rfl rfl (by show 3 ≤ 48; omega) ?_
  have hv := hx _ k.tail
  by_cases h0 : c < 0
  · have e : dwrite D c d = (100, D) := by simp [dwrite, mopen, h0]
    rw [e]
    (repeat' first
      | refine AWP.seq ?_
      | refine AWP.block ?_
      | (refine AWP.skip ?_; try dsimp only [thn, inBlk])
      | (refine AWP.exit ?_; try simp only [thn, inBlk, if_true, reduceIte, Nat.reduceEqDiff])
      | (refine AWP.ret ?_; try dsimp only [thn, inBlk])
      | (refine AWP.condT ?_ ?_; (focus (simp [go_sem, h0]; done)))
      | (refine AWP.condF ?_ ?_; (focus (simp [go_sem, h0]; done)))
      | (apply AWP.rE; (focus (simp [go_sem, h0]; exact ⟨rfl, rfl⟩)); try dsimp only [thn, inBlk])
      | (apply AWP.dE hmix [.n 0 [2], .n 1 [23], .n 2 [7], .n 3 [25], .n 4 [26], .n 5 [27], .n 6 [28], .n 7 [7], .n 8 [30], .n 9 [31], .n 10 [32], .n 11 [29, 33], .n 12 [34], .n 13 [24, 35]]; (focus kernel_rfl); (focus (simp [go_sem, h0]; exact ⟨rfl, rfl⟩)); try dsimp only [thn, inBlk])
      | fail)
    simp [bodyQ, thn, inBlk, resA, resV, go_sem]
    exact k
  by_cases h1 : 3 < c
  · have h2 : 4 ≤ c := by omega
    have e : dwrite D c d = (100, D) := by simp [dwrite, mopen, h0, h2]
    rw [e]
    (repeat' first
      | refine AWP.seq ?_
      | refine AWP.block ?_
      | (refine AWP.skip ?_; try dsimp only [thn, inBlk])
      | (refine AWP.exit ?_; try simp only [thn, inBlk, if_true, reduceIte, Nat.reduceEqDiff])
      | (refine AWP.ret ?_; try dsimp only [thn, inBlk])
      | (refine AWP.condT ?_ ?_; (focus (simp [go_sem, h0, h1]; done)))
      | (refine AWP.condF ?_ ?_; (focus (simp [go_sem, h0, h1]; done)))
      | (apply AWP.rE; (focus (simp [go_sem, h0, h1]; exact ⟨rfl, rfl⟩)); try dsimp only [thn, inBlk])
      | (apply AWP.dE hmix [.n 0 [2], .n 1 [23], .n 2 [7], .n 3 [25], .n 4 [26], .n 5 [27], .n 6 [28], .n 7 [7], .n 8 [30], .n 9 [31], .n 10 [32], .n 11 [29, 33], .n 12 [34], .n 13 [24, 35]]; (focus kernel_rfl); (focus (simp [go_sem, h0, h1]; exact ⟨rfl, rfl⟩)); try dsimp only [thn, inBlk])
      | fail)
    simp [bodyQ, thn, inBlk, resA, resV, go_sem]
    exact k
  obtain ⟨n, rfl⟩ : ∃ n : Nat, c = n := ⟨c.toNat, by omega⟩
  have hn : n < 4 := by omega
  have hi : (n : Int) < 4 := by omega
  obtain ⟨ps, k4, kt⟩ := dmux_out hn k
  have f := k4.fd hn
  have fb := f.b
  have fl := d_len k4
  have c1 := kt.tail.tail.obj
  have g := f.d2
  have g0 := f.d0
  have g1 := f.d1
  have hw := hW n
  have ho := di.at n
  have ho1 := ho.s
  have ho2 := ho.w
  obtain ⟨va, vcap, rfl⟩ := hv.val
  have e : dwrite D n d = if (dg D n).closed then (102, D) else if 4096 - ((dg D n).w.length - (dg D n).s) < d.length then (2, D) else (0, D.set n { dg D n with w := (dg D n).w ++ d }) := by
    unfold dwrite
    rw [mopen_D di hn, Int.toNat_natCast]
    cases (dg D n).closed <;> simp
  rw [e]
  cases hcl : (dg D n).closed <;> rw [hcl] at g
  rotate_left
  · (repeat' first
      | refine AWP.seq ?_
      | refine AWP.block ?_
      | (refine AWP.skip ?_; try dsimp only [thn, inBlk])
      | (refine AWP.exit ?_; try simp only [thn, inBlk, if_true, reduceIte, Nat.reduceEqDiff])
      | (refine AWP.ret ?_; try dsimp only [thn, inBlk])
      | (refine AWP.condT ?_ ?_; (focus (simp [go_sem, h0, h1, hi, c1, fl, fb, g]; done)))
      | (refine AWP.condF ?_ ?_; (focus (simp [go_sem, h0, h1, hi, c1, fl, fb, g]; done)))
      | (apply AWP.rE; (focus (simp [go_sem, h0, h1, hi, c1, fl, fb, g]; exact ⟨rfl, rfl⟩)); try dsimp only [thn, inBlk])
      | (apply AWP.dE hmix [.n 0 [2], .n 1 [23], .n 2 [7], .n 3 [25], .n 4 [26], .n 5 [27], .n 6 [28], .n 7 [7], .n 8 [30], .n 9 [31], .n 10 [32], .n 11 [29, 33], .n 12 [34], .n 13 [24, 35]]; (focus kernel_rfl); (focus (simp [go_sem, h0, h1, hi, c1, fl, fb, g]; exact ⟨rfl, rfl⟩)); try dsimp only [thn, inBlk])
      | fail)
    simp [bodyQ, thn, inBlk, resA, resV, go_sem]
    exact k
  have w1 : IntKind.i64.wrap (((dg D n).w.length : Int) - ((dg D n).s : Int)) = ((dg D n).w.length : Int) - ((dg D n).s : Int) := wI64 (by omega) (by omega)
  have w2 : IntKind.i64.wrap (4096 - (((dg D n).w.length : Int) - ((dg D n).s : Int))) = 4096 - (((dg D n).w.length : Int) - ((dg D n).s : Int)) := wI64 (by omega) (by omega)
  by_cases hf : 4096 - ((dg D n).w.length - (dg D n).s) < d.length
  · have hf2 : (4096 : Int) - (((dg D n).w.length : Int) - ((dg D n).s : Int)) < (d.length : Int) := by omega
    (repeat' first
      | refine AWP.seq ?_
      | refine AWP.block ?_
      | (refine AWP.skip ?_; try dsimp only [thn, inBlk])
      | (refine AWP.exit ?_; try simp only [thn, inBlk, if_true, reduceIte, Nat.reduceEqDiff])
      | (refine AWP.ret ?_; try dsimp only [thn, inBlk])
      | (refine AWP.condT ?_ ?_; (focus (simp [go_sem, h0, h1, hi, c1, fl, fb, g, g0, g1, w1, w2, hf2]; done)))
      | (refine AWP.condF ?_ ?_; (focus (simp [go_sem, h0, h1, hi, c1, fl, fb, g, g0, g1, w1, w2, hf2]; done)))
      | (apply AWP.rE; (focus (simp [go_sem, h0, h1, hi, c1, fl, fb, g, g0, g1, w1, w2, hf2]; exact ⟨rfl, rfl⟩)); try dsimp only [thn, inBlk])
      | (apply AWP.dE hmix [.n 0 [2], .n 1 [23], .n 2 [7], .n 3 [25], .n 4 [26], .n 5 [27], .n 6 [28], .n 7 [7], .n 8 [30], .n 9 [31], .n 10 [32], .n 11 [29, 33], .n 12 [34], .n 13 [24, 35]]; (focus kernel_rfl); (focus (simp [go_sem, h0, h1, hi, c1, fl, fb, g, g0, g1, w1, w2, hf2]; exact ⟨rfl, rfl⟩)); try dsimp only [thn, inBlk])
      | fail)
    simp [bodyQ, thn, inBlk, resA, resV, go_sem, hf]
    exact k
  have hf2 : ¬ (4096 : Int) - (((dg D n).w.length : Int) - ((dg D n).s : Int)) < (d.length : Int) := by omega
  have k1 : Own O _ (ob 5 (.slice (some ⟨h.next, 0, none⟩) 0 0) [] :: _) := (kt.push (.row [] 5 1 true false)).row_any (n := 0) rfl
  have c2 := k1.tail.tail.tail.obj
  obtain ⟨a2, cap2, h2, e2, k2⟩ := k1.appB (P := Try.prog) (t := 28) (xt := 28) Try.underlying28 tsz5 tby5 tz5 nI28 k1.tail.ob_bytes.src (by simp; omega)
  simp only [List.length_nil, Nat.zero_add, List.nil_append] at e2 k2
  obtain ⟨a3, cap3, h3, e3, k3⟩ := k2.appB (P := Try.prog) (t := 28) (xt := 28) Try.underlying28 tsz5 tby5 tz5 nI28 (hx _ k2.tail.tail.tail.tail.rest).src (by omega)
  have c3 := k3.tail.tail.tail.obj
  have hl : (dg D n).w.length + d.length = ((dg D n).w ++ d).length := by simp
  have e4 := sd0 k4 hn ((dg D n).w ++ d) (a := a3) (cap := cap3) hl
  have k5 := k3.b3.set (drow (D.set n { dg D n with w := (dg D n).w ++ d }) (ps.set n ((a3, cap3), (qg ps n).2)))
  rw [hl] at k5
  have k6 := dmux_in hn k4 { dg D n with w := (dg D n).w ++ d } ((a3, cap3), (qg ps n).2) k5.d2.p2
  (repeat' first
    | refine AWP.seq ?_
    | refine AWP.block ?_
    | (refine AWP.skip ?_; try dsimp only [thn, inBlk])
    | (refine AWP.exit ?_; try simp only [thn, inBlk, if_true, reduceIte, Nat.reduceEqDiff])
    | (refine AWP.ret ?_; try dsimp only [thn, inBlk])
    | (refine AWP.condT ?_ ?_; (focus (simp [go_sem, h0, h1, hi, c1, fl, fb, g, g0, g1, w1, w2, hf2, c2, e2, e3, c3, e4]; done)))
    | (refine AWP.condF ?_ ?_; (focus (simp [go_sem, h0, h1, hi, c1, fl, fb, g, g0, g1, w1, w2, hf2, c2, e2, e3, c3, e4]; done)))
    | (apply AWP.rE; (focus (simp [go_sem, h0, h1, hi, c1, fl, fb, g, g0, g1, w1, w2, hf2, c2, e2, e3, c3, e4]; exact ⟨rfl, rfl⟩)); try dsimp only [thn, inBlk])
    | (apply AWP.dE hmix [.n 0 [2], .n 1 [23], .n 2 [7], .n 3 [25], .n 4 [26], .n 5 [27], .n 6 [28], .n 7 [7], .n 8 [30], .n 9 [31], .n 10 [32], .n 11 [29, 33], .n 12 [34], .n 13 [24, 35]]; (focus kernel_rfl); (focus (simp [go_sem, h0, h1, hi, c1, fl, fb, g, g0, g1, w1, w2, hf2, c2, e2, e3, c3, e4]; exact ⟨rfl, rfl⟩)); try dsimp only [thn, inBlk])
    | fail)
  simp [bodyQ, thn, inBlk, resA, resV, go_sem, hf]
  exact k6
set_option maxHeartbeats 1000000 in
theorem dread_calls {O : Old} {h : AHeap} {R : List Chunk} {b : Nat} {D : List Dc} (k : Own O h (dmux b D :: R)) (di : DI D) (c most : Int) (hC : ∀ c, (dg D c).c.length ≤ 1000000000) :
    ACalls Try.prog 21 #[ptr b, .int .i64 c, .int .i64 most] h fun r h' => Own O h' (ob 5 r (dread D c most).1 :: dmux b (dread D c most).2 :: R) := by
  refine ACalls.of_awp (args := [ptr b, .int .i64 c, .int .i64 most]) (n := 66) Try.func21 rfl rfl (by show 3 ≤ 66; omega) ?_
  have kn : Own O _ (ob 5 (.slice (some ⟨h.next, 0, none⟩) 0 0) [] :: _) := (k.push (.row [] 5 1 true false)).row_any (n := 0) rfl
  by_cases h0 : c < 0
  · have e : dread D c most = ([], D) := by simp [dread, h0]
    rw [e]
    (repeat' first
      | refine AWP.seq ?_
      | refine AWP.block ?_
      | (refine AWP.skip ?_; try dsimp only [thn, inBlk])
      | (refine AWP.exit ?_; try simp only [thn, inBlk, if_true, reduceIte, Nat.reduceEqDiff])
      | (refine AWP.ret ?_; try dsimp only [thn, inBlk])
      | (refine AWP.condT ?_ ?_; (focus (simp [go_sem, h0]; done)))
      | (refine AWP.condF ?_ ?_; (focus (simp [go_sem, h0]; done)))
      | (apply AWP.rE; (focus (simp [go_sem, h0]; exact ⟨rfl, rfl⟩)); try dsimp only [thn, inBlk])
      | (apply AWP.dE hmix [.n 0 [7], .n 1 [26], .n 2 [27], .n 3 [28], .n 4 [29], .n 5 [7], .n 6 [31], .n 7 [32], .n 8 [33], .n 9 [30, 34], .n 10 [35]]; (focus kernel_rfl); (focus (simp [go_sem, h0]; exact ⟨rfl, rfl⟩)); try dsimp only [thn, inBlk])
      | (apply AWP.dE hmix [.n 0 [], .n 1 [7], .n 2 [41], .n 3 [42], .n 4 [43], .n 5 [7], .n 6 [45], .n 7 [46], .n 8 [47], .n 9 [7], .n 10 [49], .n 11 [50], .n 12 [51], .n 13 [8], .n 14 [52, 53], .n 15 [44, 48, 54], .w 16 [40, 55] [], .n 17 [56]]; (focus kernel_rfl); (focus (simp [go_sem, h0]; exact ⟨rfl, rfl⟩)); try dsimp only [thn, inBlk])
      | fail)
    simp [bodyQ, thn, inBlk, resA, resV, go_sem]
    exact kn
  by_cases h1 : 3 < c
  · have h2 : 4 ≤ c := by omega
    have e : dread D c most = ([], D) := by simp [dread, h0, h2]
    rw [e]
    (repeat' first
      | refine AWP.seq ?_
      | refine AWP.block ?_
      | (refine AWP.skip ?_; try dsimp only [thn, inBlk])
      | (refine AWP.exit ?_; try simp only [thn, inBlk, if_true, reduceIte, Nat.reduceEqDiff])
      | (refine AWP.ret ?_; try dsimp only [thn, inBlk])
      | (refine AWP.condT ?_ ?_; (focus (simp [go_sem, h0, h1]; done)))
      | (refine AWP.condF ?_ ?_; (focus (simp [go_sem, h0, h1]; done)))
      | (apply AWP.rE; (focus (simp [go_sem, h0, h1]; exact ⟨rfl, rfl⟩)); try dsimp only [thn, inBlk])
      | (apply AWP.dE hmix [.n 0 [7], .n 1 [26], .n 2 [27], .n 3 [28], .n 4 [29], .n 5 [7], .n 6 [31], .n 7 [32], .n 8 [33], .n 9 [30, 34], .n 10 [35]]; (focus kernel_rfl); (focus (simp [go_sem, h0, h1]; exact ⟨rfl, rfl⟩)); try dsimp only [thn, inBlk])
      | (apply AWP.dE hmix [.n 0 [], .n 1 [7], .n 2 [41], .n 3 [42], .n 4 [43], .n 5 [7], .n 6 [45], .n 7 [46], .n 8 [47], .n 9 [7], .n 10 [49], .n 11 [50], .n 12 [51], .n 13 [8], .n 14 [52, 53], .n 15 [44, 48, 54], .w 16 [40, 55] [], .n 17 [56]]; (focus kernel_rfl); (focus (simp [go_sem, h0, h1]; exact ⟨rfl, rfl⟩)); try dsimp only [thn, inBlk])
      | fail)
    simp [bodyQ, thn, inBlk, resA, resV, go_sem]
    exact kn
  by_cases h2 : most ≤ 0
  · have e : dread D c most = ([], D) := by simp [dread, h2]
    rw [e]
    (repeat' first
      | refine AWP.seq ?_
      | refine AWP.block ?_
      | (refine AWP.skip ?_; try dsimp only [thn, inBlk])
      | (refine AWP.exit ?_; try simp only [thn, inBlk, if_true, reduceIte, Nat.reduceEqDiff])
      | (refine AWP.ret ?_; try dsimp only [thn, inBlk])
      | (refine AWP.condT ?_ ?_; (focus (simp [go_sem, h0, h1, h2]; done)))
      | (refine AWP.condF ?_ ?_; (focus (simp [go_sem, h0, h1, h2]; done)))
      | (apply AWP.rE; (focus (simp [go_sem, h0, h1, h2]; exact ⟨rfl, rfl⟩)); try dsimp only [thn, inBlk])
      | (apply AWP.dE hmix [.n 0 [7], .n 1 [26], .n 2 [27], .n 3 [28], .n 4 [29], .n 5 [7], .n 6 [31], .n 7 [32], .n 8 [33], .n 9 [30, 34], .n 10 [35]]; (focus kernel_rfl); (focus (simp [go_sem, h0, h1, h2]; exact ⟨rfl, rfl⟩)); try dsimp only [thn, inBlk])
      | (apply AWP.dE hmix [.n 0 [], .n 1 [7], .n 2 [41], .n 3 [42], .n 4 [43], .n 5 [7], .n 6 [45], .n 7 [46], .n 8 [47], .n 9 [7], .n 10 [49], .n 11 [50], .n 12 [51], .n 13 [8], .n 14 [52, 53], .n 15 [44, 48, 54], .w 16 [40, 55] [], .n 17 [56]]; (focus kernel_rfl); (focus (simp [go_sem, h0, h1, h2]; exact ⟨rfl, rfl⟩)); try dsimp only [thn, inBlk])
      | fail)
    simp [bodyQ, thn, inBlk, resA, resV, go_sem]
    exact kn
  obtain ⟨n, rfl⟩ : ∃ n : Nat, c = n := ⟨c.toNat, by omega⟩
  have hn : n < 4 := by omega
  have hi : (n : Int) < 4 := by omega
  obtain ⟨m, hm⟩ : ∃ m, m = min most.toNat ((dg D n).c.length - (dg D n).r) := ⟨_, rfl⟩
  have e : dread D n most = (((dg D n).c.drop (dg D n).r).take m, D.set n { dg D n with r := (dg D n).r + m }) := by
    unfold dread
    rw [if_neg (by omega), Int.toNat_natCast]
    simp only [hm]
  rw [e]
  obtain ⟨ps, k4, kt⟩ := dmux_out hn k
  have f := k4.fd hn
  have fb := f.b
  have fl := d_len k4
  have c1 := kt.tail.tail.obj
  have g4 := f.d4
  have g5 := f.d5
  have hc := hC n
  have hr := (di.at n).r
  have w1 : IntKind.i64.wrap (((dg D n).c.length : Int) - ((dg D n).r : Int)) = (((dg D n).c.length - (dg D n).r : Nat) : Int) := by rw [wI64 (by omega) (by omega)]; omega
  obtain ⟨L, hL⟩ : ∃ L, L = (dg D n).c.length - (dg D n).r := ⟨_, rfl⟩
  rw [← hL] at w1 hm
  have w2 : IntKind.i64.wrap (((dg D n).r : Int) + (m : Int)) = (((dg D n).r + m : Nat) : Int) := by rw [wI64 (by omega) (by omega)]; omega
  obtain ⟨r1, hr1⟩ : ∃ r1, r1 = (dg D n).r + m := ⟨_, rfl⟩
  rw [← hr1] at w2 ⊢
  have k1 : Own O _ (ob 5 (.slice (some ⟨h.next, 0, none⟩) 0 0) [] :: _) := (kt.push (.row [] 5 1 true false)).row_any (n := 0) rfl
  have c2 := k1.tail.tail.tail.obj
  have pc := (k1.tail.tail.ob_bytes).piece (P := Try.prog) (t := 28) (e := 5) Try.underlying28 tsz5 (lo := (dg D n).r) (hi := r1) (by omega) (by omega) (l := some (.int .i64 ((dg D n).r : Int))) (u := some (.int .i64 (r1 : Int))) (.inr ⟨.i64, rfl⟩) (.inr ⟨.i64, rfl⟩)
  obtain ⟨s1, s2⟩ := pc
  have tk : ((dg D n).c.take r1).drop (dg D n).r = ((dg D n).c.drop (dg D n).r).take m := by
    rw [List.drop_take]; congr 1; omega
  rw [tk] at s2
  have tl : (((dg D n).c.drop (dg D n).r).take m).length = m := by simp; omega
  obtain ⟨a2, cap2, h2', e2, k2⟩ := k1.appB (P := Try.prog) (t := 28) (xt := 28) Try.underlying28 tsz5 tby5 tz5 nI28 s2.src (by simp; omega)
  rw [tl] at e2 k2
  simp only [List.length_nil, Nat.zero_add, List.nil_append] at e2 k2
  have c3 := k2.tail.tail.tail.obj
  have e5 := sd5 k4 hn r1
  have k5 := k2.b3.set (drow (D.set n { dg D n with r := r1 }) ps)
  have k6 := (dmux_in2 hn k4 { dg D n with r := r1 } (qg ps n) (by rw [qset (by rw [k4.p]; exact hn)]; exact k5.b2.b3.b1)).b1
  by_cases hgt : most < (L : Int)
  · have hme : most = (m : Int) := by omega
    have w2' : IntKind.i64.wrap (((dg D n).r : Int) + most) = (r1 : Int) := by rw [hme]; exact w2
    (repeat' first
      | refine AWP.seq ?_
      | refine AWP.block ?_
      | (refine AWP.skip ?_; try dsimp only [thn, inBlk])
      | (refine AWP.exit ?_; try simp only [thn, inBlk, if_true, reduceIte, Nat.reduceEqDiff])
      | (refine AWP.ret ?_; try dsimp only [thn, inBlk])
      | (refine AWP.condT ?_ ?_; (focus (simp [go_sem, h0, h1, h2, hi, c1, fl, fb, g4, g5, w1, hgt, w2', s1, e2, c2, c3, e5]; done)))
      | (refine AWP.condF ?_ ?_; (focus (simp [go_sem, h0, h1, h2, hi, c1, fl, fb, g4, g5, w1, hgt, w2', s1, e2, c2, c3, e5]; done)))
      | (apply AWP.rE; (focus (simp [go_sem, h0, h1, h2, hi, c1, fl, fb, g4, g5, w1, hgt, w2', s1, e2, c2, c3, e5]; exact ⟨rfl, rfl⟩)); try dsimp only [thn, inBlk])
      | (apply AWP.dE hmix [.n 0 [7], .n 1 [26], .n 2 [27], .n 3 [28], .n 4 [29], .n 5 [7], .n 6 [31], .n 7 [32], .n 8 [33], .n 9 [30, 34], .n 10 [35]]; (focus kernel_rfl); (focus (simp [go_sem, h0, h1, h2, hi, c1, fl, fb, g4, g5, w1, hgt, w2', s1, e2, c2, c3, e5]; exact ⟨rfl, rfl⟩)); try dsimp only [thn, inBlk])
      | (apply AWP.dE hmix [.n 0 [], .n 1 [7], .n 2 [41], .n 3 [42], .n 4 [43], .n 5 [7], .n 6 [45], .n 7 [46], .n 8 [47], .n 9 [7], .n 10 [49], .n 11 [50], .n 12 [51], .n 13 [8], .n 14 [52, 53], .n 15 [44, 48, 54], .w 16 [40, 55] [], .n 17 [56]]; (focus kernel_rfl); (focus (simp [go_sem, h0, h1, h2, hi, c1, fl, fb, g4, g5, w1, hgt, w2', s1, e2, c2, c3, e5]; exact ⟨rfl, rfl⟩)); try dsimp only [thn, inBlk])
      | fail)
    simp [bodyQ, thn, inBlk, resA, resV, go_sem]
    exact k6
  · have hme : L = m := by omega
    rw [hme] at hgt w1
    (repeat' first
      | refine AWP.seq ?_
      | refine AWP.block ?_
      | (refine AWP.skip ?_; try dsimp only [thn, inBlk])
      | (refine AWP.exit ?_; try simp only [thn, inBlk, if_true, reduceIte, Nat.reduceEqDiff])
      | (refine AWP.ret ?_; try dsimp only [thn, inBlk])
      | (refine AWP.condT ?_ ?_; (focus (simp [go_sem, h0, h1, h2, hi, c1, fl, fb, g4, g5, w1, hgt, w2, s1, e2, c2, c3, e5]; done)))
      | (refine AWP.condF ?_ ?_; (focus (simp [go_sem, h0, h1, h2, hi, c1, fl, fb, g4, g5, w1, hgt, w2, s1, e2, c2, c3, e5]; done)))
      | (apply AWP.rE; (focus (simp [go_sem, h0, h1, h2, hi, c1, fl, fb, g4, g5, w1, hgt, w2, s1, e2, c2, c3, e5]; exact ⟨rfl, rfl⟩)); try dsimp only [thn, inBlk])
      | (apply AWP.dE hmix [.n 0 [7], .n 1 [26], .n 2 [27], .n 3 [28], .n 4 [29], .n 5 [7], .n 6 [31], .n 7 [32], .n 8 [33], .n 9 [30, 34], .n 10 [35]]; (focus kernel_rfl); (focus (simp [go_sem, h0, h1, h2, hi, c1, fl, fb, g4, g5, w1, hgt, w2, s1, e2, c2, c3, e5]; exact ⟨rfl, rfl⟩)); try dsimp only [thn, inBlk])
      | (apply AWP.dE hmix [.n 0 [], .n 1 [7], .n 2 [41], .n 3 [42], .n 4 [43], .n 5 [7], .n 6 [45], .n 7 [46], .n 8 [47], .n 9 [7], .n 10 [49], .n 11 [50], .n 12 [51], .n 13 [8], .n 14 [52, 53], .n 15 [44, 48, 54], .w 16 [40, 55] [], .n 17 [56]]; (focus kernel_rfl); (focus (simp [go_sem, h0, h1, h2, hi, c1, fl, fb, g4, g5, w1, hgt, w2, s1, e2, c2, c3, e5]; exact ⟨rfl, rfl⟩)); try dsimp only [thn, inBlk])
      | fail)
    simp [bodyQ, thn, inBlk, resA, resV, go_sem]
    exact k6
end L18
