import Derived.Test.YtaieafdiomknoaaDoorL22f
open Go Ab Go.Proofs
namespace L22
set_option autoImplicit false
set_option linter.unusedSimpArgs false
set_option linter.unusedVariables false

theorem mem_addData : ∀ {l : List Tl} {c : UInt8} {f : Tl} {n : Nat}, (∀ g ∈ l, g.2.length ≤ 3000 + n) → f ∈ addData l c → f.2.length ≤ 3000 + (n + 1)
  | [], c, f, n, _, hf => by
    simp only [addData, List.mem_singleton] at hf; subst hf; simp; omega
  | [x], c, f, n, h, hf => by
    have hx := h x (by simp)
    simp only [addData] at hf
    split at hf
    · simp only [List.mem_singleton] at hf; subst hf; simp; omega
    · simp only [List.mem_cons, List.not_mem_nil, or_false] at hf
      rcases hf with rfl | rfl
      · omega
      · simp; omega
  | x :: y :: l, c, f, n, h, hf => by
    simp only [addData, List.mem_cons] at hf
    rcases hf with rfl | hf
    · have := h f (by simp); omega
    · exact mem_addData (l := y :: l) (fun g hg => h g (by simp only [List.mem_cons] at hg ⊢; exact .inr hg)) hf
theorem len_addData : ∀ {l : List Tl} {c : UInt8}, (addData l c).length ≤ l.length + 1
  | [], c => by simp [addData]
  | [x], c => by simp only [addData]; split <;> simp
  | x :: y :: l, c => by
    have := len_addData (l := y :: l) (c := c)
    simp only [addData, List.length_cons] at this ⊢; omega

section
variable {n : Nat} {s : Rd} {c : UInt8}
theorem RI.mono (h : RI n s) : RI (n + 1) s := ⟨by have := h.out; omega, fun f hf => by have := h.bod f hf; omega, h.pd⟩
theorem RI.data (h : RI n s) : RI (n + 1) (dataR s c) := ⟨by have := h.out; have := len_addData (l := s.out) (c := c); simp only [dataR]; omega, fun f hf => mem_addData h.bod hf, h.pd⟩
theorem RI.whole (h : RI n s) : RI (n + 1) (wholeR s) := ⟨by have := h.out; simp [wholeR]; omega, fun f hf => by
  simp only [wholeR, List.mem_append, List.mem_singleton] at hf
  rcases hf with hf | rfl
  · have := h.bod f hf; omega
  · have := h.pd; simp only; omega, by simp [wholeR]⟩
theorem RI.more (h : RI n s) : RI (n + 1) (moreR s c) := by
  unfold moreR
  split
  · exact ⟨h.mono.out, h.mono.bod, h.pd⟩
  · exact ⟨h.mono.out, h.mono.bod, by simp; omega⟩
theorem RI.command (h : RI n s) : RI (n + 1) (commandR s c) := by
  unfold commandR
  split
  · exact RI.data (s := { s with st := 0 }) ⟨h.out, h.bod, h.pd⟩
  split
  · exact ⟨h.mono.out, h.mono.bod, by simp⟩
  split
  · exact ⟨h.mono.out, h.mono.bod, by simp⟩
  split
  · exact ⟨h.mono.out, h.mono.bod, h.pd⟩
  · exact ⟨h.mono.out, h.mono.bod, h.pd⟩
theorem RI.take (h : RI n s) : RI (n + 1) (takeR s c) := by
  unfold takeR
  split
  · split
    · exact ⟨h.mono.out, h.mono.bod, h.pd⟩
    · exact h.data
  split
  · exact h.command
  split
  · exact RI.whole (s := { s with po := c.toNat }) ⟨h.out, h.bod, h.pd⟩
  split
  · exact ⟨h.mono.out, h.mono.bod, h.pd⟩
  split
  · split
    · exact ⟨h.mono.out, h.mono.bod, h.pd⟩
    · exact h.more
  split
  · split
    · exact h.more
    split
    · exact h.whole
    · exact ⟨h.mono.out, h.mono.bod, h.pd⟩
  · exact h.mono
end

set_option maxHeartbeats 4000000 in
theorem take_calls {O : Old} {h : AHeap} {R : List Chunk} {i n : Nat} {s : Rd} {c : UInt8} (k : Own O h (rdr i s :: R)) (hi : RI n s) (hn : n ≤ 1000000) :
    ACalls Tryd.prog 25 #[ptr i, .int .u8 c.toNat] h fun r h' => Own O h' (rdr i (takeR s c) :: R) := by
  obtain ⟨st, pk, pv, po, pd, out, br⟩ := s
  obtain ⟨pa, pc, oa, oc, k1⟩ := rdr_iff.1 k
  dsimp only [rrow] at k1
  have c1 := k1.obj
  refine ACalls.of_awp (args := [ptr i, .int .u8 c.toNat]) (n := 69) Tryd.func25 rfl rfl (by show 2 ≤ 69; omega) ?_
  by_cases h0 : st = 0
  · subst h0
    by_cases h255 : c = 255
    · have hc : ((c.toNat : Int) == 255) = true := by rw [h255]; rfl
      have e : takeR ⟨0, pk, pv, po, pd, out, br⟩ c = ⟨1, pk, pv, po, pd, out, br⟩ := by simp [takeR, h255]
      (repeat' first
        | refine AWP.seq ?_
        | refine AWP.block ?_
        | (refine AWP.skip ?_; try dsimp only [thn, inBlk])
        | (refine AWP.exit ?_; try simp only [thn, inBlk, if_true, reduceIte, Nat.reduceEqDiff])
        | (refine AWP.ret ?_; try dsimp only [thn, inBlk])
        | (refine AWP.condT ?_ ?_; (focus (simp [go_sem, c1, hc]; done)))
        | (refine AWP.condF ?_ ?_; (focus (simp [go_sem, c1, hc]; done)))
        | (apply AWP.rE; (focus (simp [go_sem, c1, hc]; exact ⟨rfl, rfl⟩)); try dsimp only [thn, inBlk])
        | fail)
      simp [bodyQ, thn, inBlk, resA, resV, go_sem]
      rw [e]
      exact rdr_iff.2 ⟨pa, pc, oa, oc, k1.set _⟩
    have hc : ((c.toNat : Int) == 255) = false := by have := eqB c 255; rw [show ((255 : UInt8).toNat : Int) = 255 from rfl] at this; rw [this]; simpa using h255
    have e : takeR ⟨0, pk, pv, po, pd, out, br⟩ c = dataR ⟨0, pk, pv, po, pd, out, br⟩ c := by simp [takeR, h255]
    (repeat' first
      | refine AWP.seq ?_
      | refine AWP.block ?_
      | (refine AWP.skip ?_; try dsimp only [thn, inBlk])
      | (refine AWP.exit ?_; try simp only [thn, inBlk, if_true, reduceIte, Nat.reduceEqDiff])
      | (refine AWP.ret ?_; try dsimp only [thn, inBlk])
      | (refine AWP.condT ?_ ?_; (focus (simp [go_sem, c1, hc]; done)))
      | (refine AWP.condF ?_ ?_; (focus (simp [go_sem, c1, hc]; done)))
      | (apply AWP.rE; (focus (simp [go_sem, c1, hc]; exact ⟨rfl, rfl⟩)); try dsimp only [thn, inBlk])
      | fail)
    refine AWP.callE (by simp [go_sem, c1]; exact ⟨rfl, rfl, rfl, rfl, rfl⟩) (by kernel_rfl) ?_
    refine (data_calls k hi hn).mono ?_
    rintro r h' k3
    refine awpL_restE (by simp [go_sem]; exact ⟨rfl, rfl⟩) ?_; try dsimp only [thn, inBlk]
    (repeat' first
      | refine AWP.seq ?_
      | refine AWP.block ?_
      | (refine AWP.skip ?_; try dsimp only [thn, inBlk])
      | (refine AWP.exit ?_; try simp only [thn, inBlk, if_true, reduceIte, Nat.reduceEqDiff])
      | (refine AWP.ret ?_; try dsimp only [thn, inBlk])
      | (refine AWP.condT ?_ ?_; (focus (simp [go_sem]; done)))
      | (refine AWP.condF ?_ ?_; (focus (simp [go_sem]; done)))
      | (apply AWP.rE; (focus (simp [go_sem]; exact ⟨rfl, rfl⟩)); try dsimp only [thn, inBlk])
      | fail)
    simp [bodyQ, thn, inBlk, resA, resV, go_sem]
    rw [e]; exact k3
  have h0' : (st == 0) = false := by simpa using h0
  by_cases h1 : st = 1
  · subst h1
    have e : takeR ⟨1, pk, pv, po, pd, out, br⟩ c = commandR ⟨1, pk, pv, po, pd, out, br⟩ c := by simp [takeR]
    (repeat' first
      | refine AWP.seq ?_
      | refine AWP.block ?_
      | (refine AWP.skip ?_; try dsimp only [thn, inBlk])
      | (refine AWP.exit ?_; try simp only [thn, inBlk, if_true, reduceIte, Nat.reduceEqDiff])
      | (refine AWP.ret ?_; try dsimp only [thn, inBlk])
      | (refine AWP.condT ?_ ?_; (focus (simp [go_sem, c1]; done)))
      | (refine AWP.condF ?_ ?_; (focus (simp [go_sem, c1]; done)))
      | (apply AWP.rE; (focus (simp [go_sem, c1]; exact ⟨rfl, rfl⟩)); try dsimp only [thn, inBlk])
      | fail)
    refine AWP.callE (by simp [go_sem, c1]; exact ⟨rfl, rfl, rfl, rfl, rfl⟩) (by kernel_rfl) ?_
    refine (command_calls k hi hn).mono ?_
    rintro r h' k3
    refine awpL_restE (by simp [go_sem]; exact ⟨rfl, rfl⟩) ?_; try dsimp only [thn, inBlk]
    (repeat' first
      | refine AWP.seq ?_
      | refine AWP.block ?_
      | (refine AWP.skip ?_; try dsimp only [thn, inBlk])
      | (refine AWP.exit ?_; try simp only [thn, inBlk, if_true, reduceIte, Nat.reduceEqDiff])
      | (refine AWP.ret ?_; try dsimp only [thn, inBlk])
      | (refine AWP.condT ?_ ?_; (focus (simp [go_sem]; done)))
      | (refine AWP.condF ?_ ?_; (focus (simp [go_sem]; done)))
      | (apply AWP.rE; (focus (simp [go_sem]; exact ⟨rfl, rfl⟩)); try dsimp only [thn, inBlk])
      | fail)
    simp [bodyQ, thn, inBlk, resA, resV, go_sem]
    rw [e]; exact k3
  have h1' : (st == 1) = false := by simpa using h1
  have wc : IntKind.i64.wrap (c.toNat : Int) = c.toNat := by have := c.toNat_lt; exact wI64 (by omega) (by omega)
  by_cases h2 : st = 2
  · subst h2
    have e : takeR ⟨2, pk, pv, po, pd, out, br⟩ c = wholeR ⟨2, pk, pv, c.toNat, pd, out, br⟩ := by simp [takeR]
    (repeat' first
      | refine AWP.seq ?_
      | refine AWP.block ?_
      | (refine AWP.skip ?_; try dsimp only [thn, inBlk])
      | (refine AWP.exit ?_; try simp only [thn, inBlk, if_true, reduceIte, Nat.reduceEqDiff])
      | (refine AWP.ret ?_; try dsimp only [thn, inBlk])
      | (refine AWP.condT ?_ ?_; (focus (simp [go_sem, c1, wc]; done)))
      | (refine AWP.condF ?_ ?_; (focus (simp [go_sem, c1, wc]; done)))
      | (apply AWP.rE; (focus (simp [go_sem, c1, wc]; exact ⟨rfl, rfl⟩)); try dsimp only [thn, inBlk])
      | fail)
    refine AWP.callE (by simp [go_sem, c1]; exact ⟨rfl, rfl, rfl, rfl, rfl⟩) (by kernel_rfl) ?_
    refine (whole_calls (s := ⟨2, pk, pv, c.toNat, pd, out, br⟩) (n := n) (rdr_iff.2 ⟨pa, pc, oa, oc, k1.set _⟩) ⟨hi.out, hi.bod, hi.pd⟩ hn).mono ?_
    rintro r h' k3
    refine awpL_restE (by simp [go_sem]; exact ⟨rfl, rfl⟩) ?_; try dsimp only [thn, inBlk]
    (repeat' first
      | refine AWP.seq ?_
      | refine AWP.block ?_
      | (refine AWP.skip ?_; try dsimp only [thn, inBlk])
      | (refine AWP.exit ?_; try simp only [thn, inBlk, if_true, reduceIte, Nat.reduceEqDiff])
      | (refine AWP.ret ?_; try dsimp only [thn, inBlk])
      | (refine AWP.condT ?_ ?_; (focus (simp [go_sem]; done)))
      | (refine AWP.condF ?_ ?_; (focus (simp [go_sem]; done)))
      | (apply AWP.rE; (focus (simp [go_sem]; exact ⟨rfl, rfl⟩)); try dsimp only [thn, inBlk])
      | fail)
    simp [bodyQ, thn, inBlk, resA, resV, go_sem]
    rw [e]; exact k3
  have h2' : (st == 2) = false := by simpa using h2
  by_cases h3 : st = 3
  · subst h3
    have e : takeR ⟨3, pk, pv, po, pd, out, br⟩ c = ⟨4, pk, pv, c.toNat, pd, out, br⟩ := by simp [takeR]
    (repeat' first
      | refine AWP.seq ?_
      | refine AWP.block ?_
      | (refine AWP.skip ?_; try dsimp only [thn, inBlk])
      | (refine AWP.exit ?_; try simp only [thn, inBlk, if_true, reduceIte, Nat.reduceEqDiff])
      | (refine AWP.ret ?_; try dsimp only [thn, inBlk])
      | (refine AWP.condT ?_ ?_; (focus (simp [go_sem, c1, wc]; done)))
      | (refine AWP.condF ?_ ?_; (focus (simp [go_sem, c1, wc]; done)))
      | (apply AWP.rE; (focus (simp [go_sem, c1, wc]; exact ⟨rfl, rfl⟩)); try dsimp only [thn, inBlk])
      | fail)
    simp [bodyQ, thn, inBlk, resA, resV, go_sem]
    rw [e]
    exact rdr_iff.2 ⟨pa, pc, oa, oc, (k1.set _).set _⟩
  have h3' : (st == 3) = false := by simpa using h3
  by_cases h4 : st = 4
  · subst h4
    by_cases h255 : c = 255
    · have hc : ((c.toNat : Int) == 255) = true := by rw [h255]; rfl
      have e : takeR ⟨4, pk, pv, po, pd, out, br⟩ c = ⟨5, pk, pv, po, pd, out, br⟩ := by simp [takeR, h255]
      (repeat' first
        | refine AWP.seq ?_
        | refine AWP.block ?_
        | (refine AWP.skip ?_; try dsimp only [thn, inBlk])
        | (refine AWP.exit ?_; try simp only [thn, inBlk, if_true, reduceIte, Nat.reduceEqDiff])
        | (refine AWP.ret ?_; try dsimp only [thn, inBlk])
        | (refine AWP.condT ?_ ?_; (focus (simp [go_sem, c1, hc]; done)))
        | (refine AWP.condF ?_ ?_; (focus (simp [go_sem, c1, hc]; done)))
        | (apply AWP.rE; (focus (simp [go_sem, c1, hc]; exact ⟨rfl, rfl⟩)); try dsimp only [thn, inBlk])
        | fail)
      simp [bodyQ, thn, inBlk, resA, resV, go_sem]
      rw [e]
      exact rdr_iff.2 ⟨pa, pc, oa, oc, k1.set _⟩
    have hc : ((c.toNat : Int) == 255) = false := by have := eqB c 255; rw [show ((255 : UInt8).toNat : Int) = 255 from rfl] at this; rw [this]; simpa using h255
    have e : takeR ⟨4, pk, pv, po, pd, out, br⟩ c = moreR ⟨4, pk, pv, po, pd, out, br⟩ c := by simp [takeR, h255]
    (repeat' first
      | refine AWP.seq ?_
      | refine AWP.block ?_
      | (refine AWP.skip ?_; try dsimp only [thn, inBlk])
      | (refine AWP.exit ?_; try simp only [thn, inBlk, if_true, reduceIte, Nat.reduceEqDiff])
      | (refine AWP.ret ?_; try dsimp only [thn, inBlk])
      | (refine AWP.condT ?_ ?_; (focus (simp [go_sem, c1, hc]; done)))
      | (refine AWP.condF ?_ ?_; (focus (simp [go_sem, c1, hc]; done)))
      | (apply AWP.rE; (focus (simp [go_sem, c1, hc]; exact ⟨rfl, rfl⟩)); try dsimp only [thn, inBlk])
      | fail)
    refine AWP.callE (by simp [go_sem, c1]; exact ⟨rfl, rfl, rfl, rfl, rfl⟩) (by kernel_rfl) ?_
    refine (more_calls k).mono ?_
    rintro r h' k3
    refine awpL_restE (by simp [go_sem]; exact ⟨rfl, rfl⟩) ?_; try dsimp only [thn, inBlk]
    (repeat' first
      | refine AWP.seq ?_
      | refine AWP.block ?_
      | (refine AWP.skip ?_; try dsimp only [thn, inBlk])
      | (refine AWP.exit ?_; try simp only [thn, inBlk, if_true, reduceIte, Nat.reduceEqDiff])
      | (refine AWP.ret ?_; try dsimp only [thn, inBlk])
      | (refine AWP.condT ?_ ?_; (focus (simp [go_sem]; done)))
      | (refine AWP.condF ?_ ?_; (focus (simp [go_sem]; done)))
      | (apply AWP.rE; (focus (simp [go_sem]; exact ⟨rfl, rfl⟩)); try dsimp only [thn, inBlk])
      | fail)
    simp [bodyQ, thn, inBlk, resA, resV, go_sem]
    rw [e]; exact k3
  have h4' : (st == 4) = false := by simpa using h4
  by_cases h5 : st = 5
  · subst h5
    by_cases h255 : c = 255
    · have hc : ((c.toNat : Int) == 255) = true := by rw [h255]; rfl
      have e : takeR ⟨5, pk, pv, po, pd, out, br⟩ c = moreR ⟨5, pk, pv, po, pd, out, br⟩ c := by simp [takeR, h255]
      (repeat' first
        | refine AWP.seq ?_
        | refine AWP.block ?_
        | (refine AWP.skip ?_; try dsimp only [thn, inBlk])
        | (refine AWP.exit ?_; try simp only [thn, inBlk, if_true, reduceIte, Nat.reduceEqDiff])
        | (refine AWP.ret ?_; try dsimp only [thn, inBlk])
        | (refine AWP.condT ?_ ?_; (focus (simp [go_sem, c1, hc]; done)))
        | (refine AWP.condF ?_ ?_; (focus (simp [go_sem, c1, hc]; done)))
        | (apply AWP.rE; (focus (simp [go_sem, c1, hc]; exact ⟨rfl, rfl⟩)); try dsimp only [thn, inBlk])
        | fail)
      refine AWP.callE (by simp [go_sem, c1]; exact ⟨rfl, rfl, rfl, rfl, rfl⟩) (by kernel_rfl) ?_
      refine (more_calls k).mono ?_
      rintro r h' k3
      refine awpL_restE (by simp [go_sem]; exact ⟨rfl, rfl⟩) ?_; try dsimp only [thn, inBlk]
      (repeat' first
        | refine AWP.seq ?_
        | refine AWP.block ?_
        | (refine AWP.skip ?_; try dsimp only [thn, inBlk])
        | (refine AWP.exit ?_; try simp only [thn, inBlk, if_true, reduceIte, Nat.reduceEqDiff])
        | (refine AWP.ret ?_; try dsimp only [thn, inBlk])
        | (refine AWP.condT ?_ ?_; (focus (simp [go_sem]; done)))
        | (refine AWP.condF ?_ ?_; (focus (simp [go_sem]; done)))
        | (apply AWP.rE; (focus (simp [go_sem]; exact ⟨rfl, rfl⟩)); try dsimp only [thn, inBlk])
        | fail)
      simp [bodyQ, thn, inBlk, resA, resV, go_sem]
      rw [e]; exact k3
    have hc : ((c.toNat : Int) == 255) = false := by have := eqB c 255; rw [show ((255 : UInt8).toNat : Int) = 255 from rfl] at this; rw [this]; simpa using h255
    by_cases h240 : c = 240
    · have hd : ((c.toNat : Int) == 240) = true := by rw [h240]; rfl
      have e : takeR ⟨5, pk, pv, po, pd, out, br⟩ c = wholeR ⟨5, pk, pv, po, pd, out, br⟩ := by simp [takeR, h255, h240]
      (repeat' first
        | refine AWP.seq ?_
        | refine AWP.block ?_
        | (refine AWP.skip ?_; try dsimp only [thn, inBlk])
        | (refine AWP.exit ?_; try simp only [thn, inBlk, if_true, reduceIte, Nat.reduceEqDiff])
        | (refine AWP.ret ?_; try dsimp only [thn, inBlk])
        | (refine AWP.condT ?_ ?_; (focus (simp [go_sem, c1, hc, hd]; done)))
        | (refine AWP.condF ?_ ?_; (focus (simp [go_sem, c1, hc, hd]; done)))
        | (apply AWP.rE; (focus (simp [go_sem, c1, hc, hd]; exact ⟨rfl, rfl⟩)); try dsimp only [thn, inBlk])
        | fail)
      refine AWP.callE (by simp [go_sem, c1]; exact ⟨rfl, rfl, rfl, rfl, rfl⟩) (by kernel_rfl) ?_
      refine (whole_calls k hi hn).mono ?_
      rintro r h' k3
      refine awpL_restE (by simp [go_sem]; exact ⟨rfl, rfl⟩) ?_; try dsimp only [thn, inBlk]
      (repeat' first
        | refine AWP.seq ?_
        | refine AWP.block ?_
        | (refine AWP.skip ?_; try dsimp only [thn, inBlk])
        | (refine AWP.exit ?_; try simp only [thn, inBlk, if_true, reduceIte, Nat.reduceEqDiff])
        | (refine AWP.ret ?_; try dsimp only [thn, inBlk])
        | (refine AWP.condT ?_ ?_; (focus (simp [go_sem]; done)))
        | (refine AWP.condF ?_ ?_; (focus (simp [go_sem]; done)))
        | (apply AWP.rE; (focus (simp [go_sem]; exact ⟨rfl, rfl⟩)); try dsimp only [thn, inBlk])
        | fail)
      simp [bodyQ, thn, inBlk, resA, resV, go_sem]
      rw [e]; exact k3
    have hd : ((c.toNat : Int) == 240) = false := by have := eqB c 240; rw [show ((240 : UInt8).toNat : Int) = 240 from rfl] at this; rw [this]; simpa using h240
    have e : takeR ⟨5, pk, pv, po, pd, out, br⟩ c = ⟨5, pk, pv, po, pd, out, 21⟩ := by simp [takeR, h255, h240]
    (repeat' first
      | refine AWP.seq ?_
      | refine AWP.block ?_
      | (refine AWP.skip ?_; try dsimp only [thn, inBlk])
      | (refine AWP.exit ?_; try simp only [thn, inBlk, if_true, reduceIte, Nat.reduceEqDiff])
      | (refine AWP.ret ?_; try dsimp only [thn, inBlk])
      | (refine AWP.condT ?_ ?_; (focus (simp [go_sem, c1, hc, hd]; done)))
      | (refine AWP.condF ?_ ?_; (focus (simp [go_sem, c1, hc, hd]; done)))
      | (apply AWP.rE; (focus (simp [go_sem, c1, hc, hd]; exact ⟨rfl, rfl⟩)); try dsimp only [thn, inBlk])
      | fail)
    simp [bodyQ, thn, inBlk, resA, resV, go_sem]
    rw [e]
    exact rdr_iff.2 ⟨pa, pc, oa, oc, k1.set _⟩
  have h5' : (st == 5) = false := by simpa using h5
  have e : takeR ⟨st, pk, pv, po, pd, out, br⟩ c = ⟨st, pk, pv, po, pd, out, br⟩ := by simp [takeR, h0, h1, h2, h3, h4, h5]
  (repeat' first
    | refine AWP.seq ?_
    | refine AWP.block ?_
    | (refine AWP.skip ?_; try dsimp only [thn, inBlk])
    | (refine AWP.exit ?_; try simp only [thn, inBlk, if_true, reduceIte, Nat.reduceEqDiff])
    | (refine AWP.ret ?_; try dsimp only [thn, inBlk])
    | (refine AWP.condT ?_ ?_; (focus (simp [go_sem, c1, h0', h1', h2', h3', h4', h5']; done)))
    | (refine AWP.condF ?_ ?_; (focus (simp [go_sem, c1, h0', h1', h2', h3', h4', h5']; done)))
    | (apply AWP.rE; (focus (simp [go_sem, c1, h0', h1', h2', h3', h4', h5']; exact ⟨rfl, rfl⟩)); try dsimp only [thn, inBlk])
    | fail)
  simp [bodyQ, thn, inBlk, resA, resV, go_sem]
  rw [e]; exact k
end L22
