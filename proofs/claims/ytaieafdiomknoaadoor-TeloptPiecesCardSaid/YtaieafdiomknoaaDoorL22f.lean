import Derived.Test.YtaieafdiomknoaaDoorL22e
open Go Ab Go.Proofs
namespace L22
set_option autoImplicit false
set_option linter.unusedSimpArgs false
set_option linter.unusedVariables false

set_option maxHeartbeats 1000000 in
theorem whole_calls {O : Old} {h : AHeap} {R : List Chunk} {i n : Nat} {s : Rd} (k : Own O h (rdr i s :: R)) (hi : RI n s) (hn : n ≤ 1000000) :
    ACalls Tryd.prog 33 #[ptr i] h fun r h' => Own O h' (rdr i (wholeR s) :: R) := by
  obtain ⟨st, pk, pv, po, pd, out, br⟩ := s
  obtain ⟨pa, pc, oa, oc, k1⟩ := rdr_iff.1 k
  have h1 := hi.out
  dsimp only [rrow] at k1 h1
  have c1 := k1.obj
  refine ACalls.of_awp (args := [ptr i]) (n := 22) Tryd.func33 rfl rfl (by show 1 ≤ 22; omega) ?_
  obtain ⟨oa', oc', h2, e1, k3⟩ := Own.brecs_app (pre := pre) (P := Tryd.prog) (t := 33) (xt := 33) (x := (pk, pv, po)) (bs := pd) (ba := pa) (bc := pc) Tryd.underlying33 tsz24 tby24 tz24 nI33 (by omega) rfl rfl rfl k1.b1.b2 rfl (by omega)
  have e1 : appendW Tryd.prog (h.push (.row [.int .i64 pk, .int .i64 pv, .int .i64 po, .slice pa pd.length pc] 24 4 true false)) 33 33 (.slice oa out.length oc) (.slice (some ⟨h.next, 0, none⟩) 1 1) = some (.slice oa' (out.length + 1) oc', h2) := e1
  have c3 := k3.b1.obj
  (repeat' first
    | refine AWP.seq ?_
    | refine AWP.block ?_
    | (refine AWP.skip ?_; try dsimp only [thn, inBlk])
    | (refine AWP.exit ?_; try simp only [thn, inBlk, if_true, reduceIte, Nat.reduceEqDiff])
    | (refine AWP.ret ?_; try dsimp only [thn, inBlk])
    | (refine AWP.condT ?_ ?_; (focus (simp [go_sem, c1, e1, c3]; done)))
    | (refine AWP.condF ?_ ?_; (focus (simp [go_sem, c1, e1, c3]; done)))
    | (apply AWP.rE; (focus (simp [go_sem, c1, e1, c3]; exact ⟨rfl, rfl⟩)); try dsimp only [thn, inBlk])
    | (apply AWP.dE hmix [.n 0 [0], .n 1 [0], .n 2 [3], .n 3 [4], .n 4 [5], .n 5 [0], .n 6 [7], .n 7 [8], .n 8 [9], .n 9 [10], .w 10 [6, 11] [], .n 11 [2], .n 12 [13], .w 13 [14, 12] []]; (focus kernel_rfl); (focus (simp [go_sem, c1, e1, c3]; exact ⟨rfl, rfl⟩)); try dsimp only [thn, inBlk])
    | fail)
  simp [bodyQ, thn, inBlk, resA, resV, go_sem]
  have hl : (out ++ [((pk, pv, po), pd)]).length = out.length + 1 := by simp
  refine rdr_iff.2 ⟨none, 0, oa', oc', ?_⟩
  dsimp only [rrow, wholeR]
  rw [hl]
  exact ((((k3.b1.set _).set _).set _).nil 5 1).b1

theorem more_calls {O : Old} {h : AHeap} {R : List Chunk} {i : Nat} {s : Rd} {c : UInt8} (k : Own O h (rdr i s :: R)) :
    ACalls Tryd.prog 34 #[ptr i, .int .u8 c.toNat] h fun r h' => Own O h' (rdr i (moreR s c) :: R) := by
  obtain ⟨st, pk, pv, po, pd, out, br⟩ := s
  obtain ⟨pa, pc, oa, oc, k1⟩ := rdr_iff.1 k
  dsimp only [rrow] at k1
  have c1 := k1.obj
  refine ACalls.of_awp (args := [ptr i, .int .u8 c.toNat]) (n := 29) Tryd.func34 rfl rfl (by show 2 ≤ 29; omega) ?_
  by_cases hm : 3000 ≤ pd.length
  · have hm' : (3000 : Int) ≤ pd.length := by omega
    have e : moreR ⟨st, pk, pv, po, pd, out, br⟩ c = ⟨st, pk, pv, po, pd, out, 23⟩ := by simp [moreR, hm]
    have k2 := k1.set (rrow ⟨st, pk, pv, po, pd, out, 23⟩ pa pc oa oc)
    (repeat' first
      | refine AWP.seq ?_
      | refine AWP.block ?_
      | (refine AWP.skip ?_; try dsimp only [thn, inBlk])
      | (refine AWP.exit ?_; try simp only [thn, inBlk, if_true, reduceIte, Nat.reduceEqDiff])
      | (refine AWP.ret ?_; try dsimp only [thn, inBlk])
      | (refine AWP.condT ?_ ?_; (focus (simp [go_sem, c1, hm']; done)))
      | (refine AWP.condF ?_ ?_; (focus (simp [go_sem, c1, hm']; done)))
      | (apply AWP.rE; (focus (simp [go_sem, c1, hm']; exact ⟨rfl, rfl⟩)); try dsimp only [thn, inBlk])
      | fail)
    simp [bodyQ, thn, inBlk, resA, resV, go_sem]
    rw [e]
    exact rdr_iff.2 ⟨pa, pc, oa, oc, k2⟩
  have hm' : ¬ (3000 : Int) ≤ pd.length := by omega
  have e : moreR ⟨st, pk, pv, po, pd, out, br⟩ c = ⟨4, pk, pv, po, pd ++ [c], out, br⟩ := by simp [moreR, hm]
  obtain ⟨a2, cap2, h3, e3, k3⟩ := Own.appB1 (P := Tryd.prog) (t := 22) (xt := 22) (c := c) Tryd.underlying22 tsz5 tby5 tz5 nI22 k1.b1 rfl (by omega)
  have c3 := k3.b1.obj
  (repeat' first
    | refine AWP.seq ?_
    | refine AWP.block ?_
    | (refine AWP.skip ?_; try dsimp only [thn, inBlk])
    | (refine AWP.exit ?_; try simp only [thn, inBlk, if_true, reduceIte, Nat.reduceEqDiff])
    | (refine AWP.ret ?_; try dsimp only [thn, inBlk])
    | (refine AWP.condT ?_ ?_; (focus (simp [go_sem, c1, hm', e3, c3]; done)))
    | (refine AWP.condF ?_ ?_; (focus (simp [go_sem, c1, hm', e3, c3]; done)))
    | (apply AWP.rE; (focus (simp [go_sem, c1, hm', e3, c3]; exact ⟨rfl, rfl⟩)); try dsimp only [thn, inBlk])
    | fail)
  simp [bodyQ, thn, inBlk, resA, resV, go_sem]
  rw [e]
  have hl : (pd ++ [c]).length = pd.length + 1 := by simp
  refine rdr_iff.2 ⟨a2, cap2, oa, oc, ?_⟩
  dsimp only [rrow]
  rw [hl]
  have k4 := (k3.b1.set (.row [.int .i64 st, .int .i64 pk, .int .i64 pv, .int .i64 po, .slice a2 (pd.length + 1) cap2, .slice oa out.length oc, .int .i64 br] 59 7 true false)).set (.row [.int .i64 4, .int .i64 pk, .int .i64 pv, .int .i64 po, .slice a2 (pd.length + 1) cap2, .slice oa out.length oc, .int .i64 br] 59 7 true false)
  exact k4

set_option maxHeartbeats 2000000 in
theorem command_calls {O : Old} {h : AHeap} {R : List Chunk} {i n : Nat} {s : Rd} {c : UInt8} (k : Own O h (rdr i s :: R)) (hi : RI n s) (hn : n ≤ 1000000) :
    ACalls Tryd.prog 32 #[ptr i, .int .u8 c.toNat] h fun r h' => Own O h' (rdr i (commandR s c) :: R) := by
  obtain ⟨st, pk, pv, po, pd, out, br⟩ := s
  obtain ⟨pa, pc, oa, oc, k1⟩ := rdr_iff.1 k
  dsimp only [rrow] at k1
  have c1 := k1.obj
  refine ACalls.of_awp (args := [ptr i, .int .u8 c.toNat]) (n := 41) Tryd.func32 rfl rfl (by show 2 ≤ 41; omega) ?_
  have k2 := k1.set (.row [.int .i64 0, .int .i64 pk, .int .i64 pv, .int .i64 po, .slice pa pd.length pc, .slice oa out.length oc, .int .i64 br] 59 7 true false)
  by_cases h255 : c = 255
  · have hc : ((c.toNat : Int) == 255) = true := by rw [h255]; rfl
    have e : commandR ⟨st, pk, pv, po, pd, out, br⟩ c = dataR ⟨0, pk, pv, po, pd, out, br⟩ c := by simp [commandR, h255]
    (repeat' first
      | refine AWP.seq ?_
      | refine AWP.block ?_
      | (refine AWP.skip ?_; try dsimp only [thn, inBlk])
      | (refine AWP.exit ?_; try simp only [thn, inBlk, if_true, reduceIte, Nat.reduceEqDiff])
      | (refine AWP.ret ?_; try dsimp only [thn, inBlk])
      | (refine AWP.condT ?_ ?_; (focus (simp [go_sem, c1, hc]; done)))
      | (refine AWP.condF ?_ ?_; (focus (simp [go_sem, c1, hc]; done)))
      | (apply AWP.rE; (focus (simp [go_sem, c1, hc]; exact ⟨rfl, rfl⟩)); try dsimp only [thn, inBlk])
      | fail)
    refine AWP.callE (by simp [go_sem, c1]; exact ⟨rfl, rfl, rfl, rfl, rfl⟩) (by kernel_rfl) ?_
    refine (data_calls (s := ⟨0, pk, pv, po, pd, out, br⟩) (i := i) (c := c) (rdr_iff.2 ⟨pa, pc, oa, oc, k2⟩) ⟨hi.out, hi.bod, hi.pd⟩ hn).mono ?_
    rintro r h' k3
    refine awpL_restE (by simp [go_sem]; exact ⟨rfl, rfl⟩) ?_; try dsimp only [thn, inBlk]
    (repeat' first
      | refine AWP.seq ?_
      | refine AWP.block ?_
      | (refine AWP.skip ?_; try dsimp only [thn, inBlk])
      | (refine AWP.exit ?_; try simp only [thn, inBlk, if_true, reduceIte, Nat.reduceEqDiff])
      | (refine AWP.ret ?_; try dsimp only [thn, inBlk])
      | (refine AWP.condT ?_ ?_; (focus (simp [go_sem]; done)))
      | (refine AWP.condF ?_ ?_; (focus (simp [go_sem]; done)))
      | (apply AWP.rE; (focus (simp [go_sem]; exact ⟨rfl, rfl⟩)); try dsimp only [thn, inBlk])
      | fail)
    simp [bodyQ, thn, inBlk, resA, resV, go_sem]
    rw [e]; exact k3
  have hc : ((c.toNat : Int) == 255) = false := by have := eqB c 255; rw [show ((255 : UInt8).toNat : Int) = 255 from rfl] at this; rw [this]; simpa using h255
  by_cases h251 : 251 ≤ c
  · have hq : (251 : Int) ≤ c.toNat := by have := UInt8.le_iff_toNat_le.1 h251; simp at this; omega
    have e : commandR ⟨st, pk, pv, po, pd, out, br⟩ c = ⟨2, 2, c.toNat, 0, [], out, br⟩ := by simp [commandR, h255, h251]
    have wc : IntKind.i64.wrap (c.toNat : Int) = c.toNat := by have := c.toNat_lt; exact wI64 (by omega) (by omega)
    (repeat' first
      | refine AWP.seq ?_
      | refine AWP.block ?_
      | (refine AWP.skip ?_; try dsimp only [thn, inBlk])
      | (refine AWP.exit ?_; try simp only [thn, inBlk, if_true, reduceIte, Nat.reduceEqDiff])
      | (refine AWP.ret ?_; try dsimp only [thn, inBlk])
      | (refine AWP.condT ?_ ?_; (focus (simp [go_sem, c1, hc, hq, wc]; done)))
      | (refine AWP.condF ?_ ?_; (focus (simp [go_sem, c1, hc, hq, wc]; done)))
      | (apply AWP.rE; (focus (simp [go_sem, c1, hc, hq, wc]; exact ⟨rfl, rfl⟩)); try dsimp only [thn, inBlk])
      | fail)
    simp [bodyQ, thn, inBlk, resA, resV, go_sem]
    rw [e]
    exact rdr_iff.2 ⟨none, 0, oa, oc, (((k2.set _).set _).d1.nil 5 1).b1⟩
  have hq : ¬ (251 : Int) ≤ c.toNat := by have := fun h => h251 (UInt8.le_iff_toNat_le.2 h); simp at this; omega
  by_cases h250 : c = 250
  · have hd : ((c.toNat : Int) == 250) = true := by rw [h250]; rfl
    have e : commandR ⟨st, pk, pv, po, pd, out, br⟩ c = ⟨3, 3, 0, 0, [], out, br⟩ := by simp [commandR, h250]
    (repeat' first
      | refine AWP.seq ?_
      | refine AWP.block ?_
      | (refine AWP.skip ?_; try dsimp only [thn, inBlk])
      | (refine AWP.exit ?_; try simp only [thn, inBlk, if_true, reduceIte, Nat.reduceEqDiff])
      | (refine AWP.ret ?_; try dsimp only [thn, inBlk])
      | (refine AWP.condT ?_ ?_; (focus (simp [go_sem, c1, hc, hq, hd]; done)))
      | (refine AWP.condF ?_ ?_; (focus (simp [go_sem, c1, hc, hq, hd]; done)))
      | (apply AWP.rE; (focus (simp [go_sem, c1, hc, hq, hd]; exact ⟨rfl, rfl⟩)); try dsimp only [thn, inBlk])
      | fail)
    simp [bodyQ, thn, inBlk, resA, resV, go_sem]
    rw [e]
    exact rdr_iff.2 ⟨none, 0, oa, oc, (((k2.set _).set _).d1.nil 5 1).b1⟩
  have hd : ((c.toNat : Int) == 250) = false := by have := eqB c 250; rw [show ((250 : UInt8).toNat : Int) = 250 from rfl] at this; rw [this]; simpa using h250
  by_cases h240 : c ≤ 240
  · have hr : (c.toNat : Int) ≤ 240 := by have := UInt8.le_iff_toNat_le.1 h240; simp at this; omega
    have e : commandR ⟨st, pk, pv, po, pd, out, br⟩ c = ⟨0, pk, pv, po, pd, out, 21⟩ := by simp [commandR, h255, h251, h250, h240]
    (repeat' first
      | refine AWP.seq ?_
      | refine AWP.block ?_
      | (refine AWP.skip ?_; try dsimp only [thn, inBlk])
      | (refine AWP.exit ?_; try simp only [thn, inBlk, if_true, reduceIte, Nat.reduceEqDiff])
      | (refine AWP.ret ?_; try dsimp only [thn, inBlk])
      | (refine AWP.condT ?_ ?_; (focus (simp [go_sem, c1, hc, hq, hd, hr]; done)))
      | (refine AWP.condF ?_ ?_; (focus (simp [go_sem, c1, hc, hq, hd, hr]; done)))
      | (apply AWP.rE; (focus (simp [go_sem, c1, hc, hq, hd, hr]; exact ⟨rfl, rfl⟩)); try dsimp only [thn, inBlk])
      | fail)
    simp [bodyQ, thn, inBlk, resA, resV, go_sem]
    rw [e]
    exact rdr_iff.2 ⟨pa, pc, oa, oc, k2.set _⟩
  have hr : ¬ (c.toNat : Int) ≤ 240 := by have := fun h => h240 (UInt8.le_iff_toNat_le.2 h); simp at this; omega
  have e : commandR ⟨st, pk, pv, po, pd, out, br⟩ c = ⟨0, pk, pv, po, pd, out, br⟩ := by simp [commandR, h255, h251, h250, h240]
  (repeat' first
    | refine AWP.seq ?_
    | refine AWP.block ?_
    | (refine AWP.skip ?_; try dsimp only [thn, inBlk])
    | (refine AWP.exit ?_; try simp only [thn, inBlk, if_true, reduceIte, Nat.reduceEqDiff])
    | (refine AWP.ret ?_; try dsimp only [thn, inBlk])
    | (refine AWP.condT ?_ ?_; (focus (simp [go_sem, c1, hc, hq, hd, hr]; done)))
    | (refine AWP.condF ?_ ?_; (focus (simp [go_sem, c1, hc, hq, hd, hr]; done)))
    | (apply AWP.rE; (focus (simp [go_sem, c1, hc, hq, hd, hr]; exact ⟨rfl, rfl⟩)); try dsimp only [thn, inBlk])
    | fail)
  simp [bodyQ, thn, inBlk, resA, resV, go_sem]
  rw [e]
  exact rdr_iff.2 ⟨pa, pc, oa, oc, k2⟩
end L22
