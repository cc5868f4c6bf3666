import Derived.Test.YtaieafdiomknoaaDoorL22c
open Go Ab Go.Proofs
namespace L22
set_option autoImplicit false
set_option linter.unusedSimpArgs false
set_option linter.unusedVariables false

set_option maxHeartbeats 4000000 in
theorem refwrite_calls {O : Old} {h : AHeap} {R : List Chunk} {d : Value} {bs : List UInt8} {kd v o : Int} (k : Own O h R) (hx : ∀ h, Own O h R → Bytes h d bs) (hm : bs.length ≤ 1000000) :
    ACalls Tryd.prog 10 #[tel kd v o d] h fun r h' => ∃ a cap, r = .tuple #[.slice a (wr kd v o bs).length cap, .int .i64 (right kd v o bs.length)] ∧ Own O h' (ob 5 (.slice a (wr kd v o bs).length cap) (wr kd v o bs) :: R) := by
  obtain ⟨da, dc, rfl⟩ := (hx h k).val
  refine ACalls.of_awp (args := [tel kd v o (.slice da bs.length dc)]) (n := 76) Tryd.func10 rfl rfl (by show 1 ≤ 76; omega) ?_
  have k1 := k.push (trow kd v o (.slice da bs.length dc))
  have c1 := k1.obj
  refine AWP.seq ?_
  (apply AWP.rE; (focus (simp [go_sem]; exact ⟨rfl, rfl⟩)); try dsimp only [thn, inBlk])
  generalize hH : h.push (trow kd v o (.slice da bs.length dc)) = h1 at *
  generalize h.next = nx at *
  have k2 : Own O (h1.push (.row [] 5 1 true false)) (ob 5 (.slice (some ⟨h1.next, 0, none⟩) 0 0) [] :: cell nx (trow kd v o (.slice da bs.length dc)) :: R) := k1.fresh (e := 5) (bs := [])
  by_cases hr1 : kd < 1
  · have e : right kd v o bs.length = 1 := by simp [right, hr1]
    have e2 : wr kd v o bs = [] := by simp [wr, e]
    (repeat' first
      | refine AWP.seq ?_
      | refine AWP.block ?_
      | (refine AWP.skip ?_; try dsimp only [thn, inBlk])
      | (refine AWP.exit ?_; try simp only [thn, inBlk, if_true, reduceIte, Nat.reduceEqDiff])
      | (refine AWP.ret ?_; try dsimp only [thn, inBlk])
      | (refine AWP.condT ?_ ?_; (focus (simp [go_sem, c1, hr1]; done)))
      | (refine AWP.condF ?_ ?_; (focus (simp [go_sem, c1, hr1]; done)))
      | (apply AWP.rE; (focus (simp [go_sem, c1, hr1]; exact ⟨rfl, rfl⟩)); try dsimp only [thn, inBlk])
      | fail)
    simp [bodyQ, thn, inBlk, resA, resV, go_sem, e, e2]
    exact ⟨_, _, ⟨rfl, rfl⟩, k2.d1⟩
  by_cases hr2 : 3 < kd
  · have e : right kd v o bs.length = 1 := by simp [right, hr1, hr2]
    have e2 : wr kd v o bs = [] := by simp [wr, e]
    (repeat' first
      | refine AWP.seq ?_
      | refine AWP.block ?_
      | (refine AWP.skip ?_; try dsimp only [thn, inBlk])
      | (refine AWP.exit ?_; try simp only [thn, inBlk, if_true, reduceIte, Nat.reduceEqDiff])
      | (refine AWP.ret ?_; try dsimp only [thn, inBlk])
      | (refine AWP.condT ?_ ?_; (focus (simp [go_sem, c1, hr1, hr2]; done)))
      | (refine AWP.condF ?_ ?_; (focus (simp [go_sem, c1, hr1, hr2]; done)))
      | (apply AWP.rE; (focus (simp [go_sem, c1, hr1, hr2]; exact ⟨rfl, rfl⟩)); try dsimp only [thn, inBlk])
      | fail)
    simp [bodyQ, thn, inBlk, resA, resV, go_sem, e, e2]
    exact ⟨_, _, ⟨rfl, rfl⟩, k2.d1⟩
  obtain rfl | rfl | rfl : kd = 1 ∨ kd = 2 ∨ kd = 3 := by omega
  · by_cases hn : 3000 < bs.length
    · have e : right 1 v o bs.length = 23 := by simp [right, hn]
      have e2 : wr 1 v o bs = [] := by simp [wr, e]
      have hn' : (3000 : Int) < bs.length := by omega
      (repeat' first
        | refine AWP.seq ?_
        | refine AWP.block ?_
        | (refine AWP.skip ?_; try dsimp only [thn, inBlk])
        | (refine AWP.exit ?_; try simp only [thn, inBlk, if_true, reduceIte, Nat.reduceEqDiff])
        | (refine AWP.ret ?_; try dsimp only [thn, inBlk])
        | (refine AWP.condT ?_ ?_; (focus (simp [go_sem, c1, hn']; done)))
        | (refine AWP.condF ?_ ?_; (focus (simp [go_sem, c1, hn']; done)))
        | (apply AWP.rE; (focus (simp [go_sem, c1, hn']; exact ⟨rfl, rfl⟩)); try dsimp only [thn, inBlk])
        | fail)
      simp [bodyQ, thn, inBlk, resA, resV, go_sem, e, e2]
      exact ⟨_, _, ⟨rfl, rfl⟩, k2.d1⟩
    have e : right 1 v o bs.length = 0 := by simp [right, hn]
    have e2 : wr 1 v o bs = esc bs := by simp [wr, e, wbytes]
    have hn' : ¬ (3000 : Int) < bs.length := by omega
    (repeat' first
      | refine AWP.seq ?_
      | refine AWP.block ?_
      | (refine AWP.skip ?_; try dsimp only [thn, inBlk])
      | (refine AWP.exit ?_; try simp only [thn, inBlk, if_true, reduceIte, Nat.reduceEqDiff])
      | (refine AWP.ret ?_; try dsimp only [thn, inBlk])
      | (refine AWP.condT ?_ ?_; (focus (simp [go_sem, c1, hn']; done)))
      | (refine AWP.condF ?_ ?_; (focus (simp [go_sem, c1, hn']; done)))
      | (apply AWP.rE; (focus (simp [go_sem, c1, hn']; exact ⟨rfl, rfl⟩)); try dsimp only [thn, inBlk])
      | fail)
    refine AWP.callE (by simp [go_sem, c1]; exact ⟨rfl, rfl, rfl, rfl, rfl⟩) (by kernel_rfl) ?_
    refine (refesc_calls k1 (fun h q => hx h q.tail) (by omega)).mono ?_
    rintro r h' ⟨a, cap, rfl, k4⟩
    refine awpL_restE (by simp [go_sem, c1]; exact ⟨rfl, rfl⟩) ?_; try dsimp only [thn, inBlk]
    (repeat' first
      | refine AWP.seq ?_
      | refine AWP.block ?_
      | (refine AWP.skip ?_; try dsimp only [thn, inBlk])
      | (refine AWP.exit ?_; try simp only [thn, inBlk, if_true, reduceIte, Nat.reduceEqDiff])
      | (refine AWP.ret ?_; try dsimp only [thn, inBlk])
      | (refine AWP.condT ?_ ?_; (focus (simp [go_sem]; done)))
      | (refine AWP.condF ?_ ?_; (focus (simp [go_sem]; done)))
      | (apply AWP.rE; (focus (simp [go_sem]; exact ⟨rfl, rfl⟩)); try dsimp only [thn, inBlk])
      | fail)
    simp [bodyQ, thn, inBlk, resA, resV, go_sem, e, e2]
    exact ⟨_, _, ⟨rfl, rfl⟩, k4.d1⟩
  · by_cases ho1 : o < 0
    · have e : right 2 v o bs.length = 1 := by simp [right, ho1]
      have e2 : wr 2 v o bs = [] := by simp [wr, e]
      (repeat' first
        | refine AWP.seq ?_
        | refine AWP.block ?_
        | (refine AWP.skip ?_; try dsimp only [thn, inBlk])
        | (refine AWP.exit ?_; try simp only [thn, inBlk, if_true, reduceIte, Nat.reduceEqDiff])
        | (refine AWP.ret ?_; try dsimp only [thn, inBlk])
        | (refine AWP.condT ?_ ?_; (focus (simp [go_sem, c1, ho1]; done)))
        | (refine AWP.condF ?_ ?_; (focus (simp [go_sem, c1, ho1]; done)))
        | (apply AWP.rE; (focus (simp [go_sem, c1, ho1]; exact ⟨rfl, rfl⟩)); try dsimp only [thn, inBlk])
        | fail)
      simp [bodyQ, thn, inBlk, resA, resV, go_sem, e, e2]
      exact ⟨_, _, ⟨rfl, rfl⟩, k2.d1⟩
    by_cases ho2 : 255 < o
    · have e : right 2 v o bs.length = 1 := by simp [right, ho2]
      have e2 : wr 2 v o bs = [] := by simp [wr, e]
      (repeat' first
        | refine AWP.seq ?_
        | refine AWP.block ?_
        | (refine AWP.skip ?_; try dsimp only [thn, inBlk])
        | (refine AWP.exit ?_; try simp only [thn, inBlk, if_true, reduceIte, Nat.reduceEqDiff])
        | (refine AWP.ret ?_; try dsimp only [thn, inBlk])
        | (refine AWP.condT ?_ ?_; (focus (simp [go_sem, c1, ho1, ho2]; done)))
        | (refine AWP.condF ?_ ?_; (focus (simp [go_sem, c1, ho1, ho2]; done)))
        | (apply AWP.rE; (focus (simp [go_sem, c1, ho1, ho2]; exact ⟨rfl, rfl⟩)); try dsimp only [thn, inBlk])
        | fail)
      simp [bodyQ, thn, inBlk, resA, resV, go_sem, e, e2]
      exact ⟨_, _, ⟨rfl, rfl⟩, k2.d1⟩
    by_cases hv1 : v < 251
    · have e : right 2 v o bs.length = 1 := by simp [right, hv1]
      have e2 : wr 2 v o bs = [] := by simp [wr, e]
      (repeat' first
        | refine AWP.seq ?_
        | refine AWP.block ?_
        | (refine AWP.skip ?_; try dsimp only [thn, inBlk])
        | (refine AWP.exit ?_; try simp only [thn, inBlk, if_true, reduceIte, Nat.reduceEqDiff])
        | (refine AWP.ret ?_; try dsimp only [thn, inBlk])
        | (refine AWP.condT ?_ ?_; (focus (simp [go_sem, c1, ho1, ho2, hv1]; done)))
        | (refine AWP.condF ?_ ?_; (focus (simp [go_sem, c1, ho1, ho2, hv1]; done)))
        | (apply AWP.rE; (focus (simp [go_sem, c1, ho1, ho2, hv1]; exact ⟨rfl, rfl⟩)); try dsimp only [thn, inBlk])
        | fail)
      simp [bodyQ, thn, inBlk, resA, resV, go_sem, e, e2]
      exact ⟨_, _, ⟨rfl, rfl⟩, k2.d1⟩
    by_cases hv2 : 254 < v
    · have e : right 2 v o bs.length = 1 := by simp [right, hv2]
      have e2 : wr 2 v o bs = [] := by simp [wr, e]
      (repeat' first
        | refine AWP.seq ?_
        | refine AWP.block ?_
        | (refine AWP.skip ?_; try dsimp only [thn, inBlk])
        | (refine AWP.exit ?_; try simp only [thn, inBlk, if_true, reduceIte, Nat.reduceEqDiff])
        | (refine AWP.ret ?_; try dsimp only [thn, inBlk])
        | (refine AWP.condT ?_ ?_; (focus (simp [go_sem, c1, ho1, ho2, hv1, hv2]; done)))
        | (refine AWP.condF ?_ ?_; (focus (simp [go_sem, c1, ho1, ho2, hv1, hv2]; done)))
        | (apply AWP.rE; (focus (simp [go_sem, c1, ho1, ho2, hv1, hv2]; exact ⟨rfl, rfl⟩)); try dsimp only [thn, inBlk])
        | fail)
      simp [bodyQ, thn, inBlk, resA, resV, go_sem, e, e2]
      exact ⟨_, _, ⟨rfl, rfl⟩, k2.d1⟩
    obtain ⟨x, rfl⟩ := byte_of (z := o) (by omega) (by omega)
    obtain ⟨y, rfl⟩ := byte_of (z := v) (by omega) (by omega)
    have e : right 2 y.toNat x.toNat bs.length = 0 := by simp only [right]; rw [if_neg (by omega), if_neg (by omega), if_pos trivial, if_neg (by omega)]
    have e2 : wr 2 y.toNat x.toNat bs = [255, y, x] := by simp [wr, e, wbytes]
    have w1 := wU8 x
    have w2 := wU8 y
    have k3 := k1.fresh (e := 5) (bs := [255, y, x])
    (repeat' first
      | refine AWP.seq ?_
      | refine AWP.block ?_
      | (refine AWP.skip ?_; try dsimp only [thn, inBlk])
      | (refine AWP.exit ?_; try simp only [thn, inBlk, if_true, reduceIte, Nat.reduceEqDiff])
      | (refine AWP.ret ?_; try dsimp only [thn, inBlk])
      | (refine AWP.condT ?_ ?_; (focus (simp [go_sem, c1, ho1, ho2, hv1, hv2, w1, w2]; done)))
      | (refine AWP.condF ?_ ?_; (focus (simp [go_sem, c1, ho1, ho2, hv1, hv2, w1, w2]; done)))
      | (apply AWP.rE; (focus (simp [go_sem, c1, ho1, ho2, hv1, hv2, w1, w2]; exact ⟨rfl, rfl⟩)); try dsimp only [thn, inBlk])
      | fail)
    simp [bodyQ, thn, inBlk, resA, resV, go_sem, e, e2]
    exact ⟨_, _, ⟨rfl, rfl⟩, k3.d1⟩
  · by_cases ho1 : o < 0
    · have e : right 3 v o bs.length = 1 := by simp [right, ho1]
      have e2 : wr 3 v o bs = [] := by simp [wr, e]
      (repeat' first
        | refine AWP.seq ?_
        | refine AWP.block ?_
        | (refine AWP.skip ?_; try dsimp only [thn, inBlk])
        | (refine AWP.exit ?_; try simp only [thn, inBlk, if_true, reduceIte, Nat.reduceEqDiff])
        | (refine AWP.ret ?_; try dsimp only [thn, inBlk])
        | (refine AWP.condT ?_ ?_; (focus (simp [go_sem, c1, ho1]; done)))
        | (refine AWP.condF ?_ ?_; (focus (simp [go_sem, c1, ho1]; done)))
        | (apply AWP.rE; (focus (simp [go_sem, c1, ho1]; exact ⟨rfl, rfl⟩)); try dsimp only [thn, inBlk])
        | fail)
      simp [bodyQ, thn, inBlk, resA, resV, go_sem, e, e2]
      exact ⟨_, _, ⟨rfl, rfl⟩, k2.d1⟩
    by_cases ho2 : 255 < o
    · have e : right 3 v o bs.length = 1 := by simp [right, ho2]
      have e2 : wr 3 v o bs = [] := by simp [wr, e]
      (repeat' first
        | refine AWP.seq ?_
        | refine AWP.block ?_
        | (refine AWP.skip ?_; try dsimp only [thn, inBlk])
        | (refine AWP.exit ?_; try simp only [thn, inBlk, if_true, reduceIte, Nat.reduceEqDiff])
        | (refine AWP.ret ?_; try dsimp only [thn, inBlk])
        | (refine AWP.condT ?_ ?_; (focus (simp [go_sem, c1, ho1, ho2]; done)))
        | (refine AWP.condF ?_ ?_; (focus (simp [go_sem, c1, ho1, ho2]; done)))
        | (apply AWP.rE; (focus (simp [go_sem, c1, ho1, ho2]; exact ⟨rfl, rfl⟩)); try dsimp only [thn, inBlk])
        | fail)
      simp [bodyQ, thn, inBlk, resA, resV, go_sem, e, e2]
      exact ⟨_, _, ⟨rfl, rfl⟩, k2.d1⟩
    by_cases hn : 3000 < bs.length
    · have e : right 3 v o bs.length = 23 := by simp [right, hn, ho1, ho2]
      have e2 : wr 3 v o bs = [] := by simp [wr, e]
      have hn' : (3000 : Int) < bs.length := by omega
      (repeat' first
        | refine AWP.seq ?_
        | refine AWP.block ?_
        | (refine AWP.skip ?_; try dsimp only [thn, inBlk])
        | (refine AWP.exit ?_; try simp only [thn, inBlk, if_true, reduceIte, Nat.reduceEqDiff])
        | (refine AWP.ret ?_; try dsimp only [thn, inBlk])
        | (refine AWP.condT ?_ ?_; (focus (simp [go_sem, c1, ho1, ho2, hn']; done)))
        | (refine AWP.condF ?_ ?_; (focus (simp [go_sem, c1, ho1, ho2, hn']; done)))
        | (apply AWP.rE; (focus (simp [go_sem, c1, ho1, ho2, hn']; exact ⟨rfl, rfl⟩)); try dsimp only [thn, inBlk])
        | fail)
      simp [bodyQ, thn, inBlk, resA, resV, go_sem, e, e2]
      exact ⟨_, _, ⟨rfl, rfl⟩, k2.d1⟩
    obtain ⟨x, rfl⟩ := byte_of (z := o) (by omega) (by omega)
    have e : right 3 v x.toNat bs.length = 0 := by simp only [right]; rw [if_neg (by omega), if_neg (by omega), if_neg (by omega), if_neg (by omega)]
    obtain ⟨W, hW⟩ : ∃ W, W = [255, 250, x] ++ esc bs ++ [255, 240] := ⟨_, rfl⟩
    have hWl : W.length = 3 + (esc bs).length + 2 := by rw [hW]; simp; omega
    have e2 : wr 3 v x.toNat bs = W := by rw [hW]; simp [wr, e, wbytes]
    rw [e, e2]
    have hn' : ¬ (3000 : Int) < bs.length := by omega
    have w1 := wU8 x
    have k3 := k1.push (.row [.int .u8 255, .int .u8 250, .int .u8 x.toNat] 5 1 true false)
    have c3 := k3.b1.obj
    (repeat' first
      | refine AWP.seq ?_
      | refine AWP.block ?_
      | (refine AWP.skip ?_; try dsimp only [thn, inBlk])
      | (refine AWP.exit ?_; try simp only [thn, inBlk, if_true, reduceIte, Nat.reduceEqDiff])
      | (refine AWP.ret ?_; try dsimp only [thn, inBlk])
      | (refine AWP.condT ?_ ?_; (focus (simp [go_sem, c1, ho1, ho2, hn']; done)))
      | (refine AWP.condF ?_ ?_; (focus (simp [go_sem, c1, ho1, ho2, hn']; done)))
      | (apply AWP.rE; (focus (simp [go_sem, c1, ho1, ho2, hn']; exact ⟨rfl, rfl⟩)); try dsimp only [thn, inBlk])
      | fail)
    refine AWP.draw hmix [.n 0 [1], .n 1 [65], .n 2 [66], .n 3 [67], .n 4 [1], .n 5 [69], .w 6 [70] [1, 2, 3], .w 7 [68, 71] [], .n 8 [72]] (by kernel_rfl) ?_
    refine awpD_callR 6 (by rfl) (by rfl) (by simp [go_sem, c1, c3, w1]; exact ⟨rfl, rfl, rfl⟩) (by rfl) (by rfl) (by simp [go_sem]) (by simp [go_sem, c1, c3, w1]; exact ⟨rfl, rfl⟩) (by kernel_rfl) ?_
    refine (refesc_calls k3 (fun h q => hx h q.tail.tail) (by omega)).mono ?_
    rintro r h2 ⟨a, cap, rfl, k4⟩
    have c4 := k4.b2.obj
    have c5 := k4.b1.obj
    refine ⟨by simp [still, go_sem, c3, c4, c5, w1], ?_⟩
    obtain ⟨a2, cap2, h3, f1, k5⟩ := sub_app (E := esc bs) (x := x) k4 (by have := esc_length bs; have := List.count_le_length (a := (255 : UInt8)) (l := bs); omega)
    refine awpD_writeR 0 (by rfl) (by rfl) (by simp [go_sem, c4, w1, f1]; exact ⟨rfl, rfl, rfl⟩) (by rfl) (by rfl) (by simp [go_sem]) (by simp [go_sem, c4, w1, f1]; exact ⟨rfl, rfl⟩) (by simp [still, go_sem, c4, w1, f1]) ?_
    refine awpD_restR (by rfl) (by simp [go_sem]; exact ⟨rfl, rfl, rfl⟩) ?_; try dsimp only [thn, inBlk]
    obtain ⟨a3, cap3, h4, f2, k6⟩ := sub_end (E := esc bs) (x := x) k5 (by have := esc_length bs; have := List.count_le_length (a := (255 : UInt8)) (l := bs); omega)
    rw [← hW] at k6
    (repeat' first
      | refine AWP.seq ?_
      | refine AWP.block ?_
      | (refine AWP.skip ?_; try dsimp only [thn, inBlk])
      | (refine AWP.exit ?_; try simp only [thn, inBlk, if_true, reduceIte, Nat.reduceEqDiff])
      | (refine AWP.ret ?_; try dsimp only [thn, inBlk])
      | (refine AWP.condT ?_ ?_; (focus (simp [go_sem, f2]; done)))
      | (refine AWP.condF ?_ ?_; (focus (simp [go_sem, f2]; done)))
      | (apply AWP.rE; (focus (simp [go_sem, f2]; exact ⟨rfl, rfl⟩)); try dsimp only [thn, inBlk])
      | fail)
    simp [bodyQ, thn, inBlk, resA, resV, go_sem]
    exact ⟨a3, cap3, ⟨rfl, by omega, rfl⟩, k6.d1⟩
end L22
