import Derived.Test.YtfnlbcifdopnhaaDoorL11g
open Go Ab Go.Proofs
namespace L11
set_option autoImplicit false
set_option linter.unusedSimpArgs false
set_option linter.unusedVariables false
section
variable {O : Old} {h : AHeap} {R : List Chunk}
theorem key_bytes {O : Old} {h : AHeap} {R : List Chunk} {i : Nat} {g : Gt} {e : TypeId} (k : Own O h (cell i (.row (gr g) e 21 true false) :: R)) : Bytes h (.slice (some ⟨i, 1, none⟩) 16 16) (k16 g.ky) := by
  refine .inr ⟨i, 1, 16, gr g, e, 21, true, false, ?_, ?_⟩
  · rw [k16_len]
  · exact ⟨by rw [k16_len]; omega, k.atc.2.2, k.obj, .inl rfl, by rw [k16_len, gr_len]; omega, by rw [k16_len]; exact gr_key⟩
set_option maxHeartbeats 8000000 in
theorem wgrant_calls {g : Gt} (k : Own O h R) (hm : g.sv.length ≤ 60000) (hno : g.no < 18446744073709551616) :
    ACalls Tryd.prog 18 #[grV g] h fun r h' => ∃ x : Value, r = .tuple #[x, .int .i64 (if grantB g then 0 else 1)] ∧ Own O h' R := by
  refine ACalls.of_awp (args := [grV g]) (n := 39) Tryd.func18 rfl rfl (by show 1 ≤ 39; omega) ?_
  have k1 := k.push (.row (gr g) 32 21 true false)
  have c1 := k1.obj
  (repeat' first
    | refine AWP.seq ?_
    | refine AWP.block ?_
    | (refine AWP.skip ?_; try dsimp only [thn, inBlk])
    | (refine AWP.exit ?_; try simp only [thn, inBlk, if_true, reduceIte, Nat.reduceEqDiff])
    | (refine AWP.ret ?_; try dsimp only [thn, inBlk])
    | (refine AWP.condT ?_ ?_; (focus (simp [go_sem]; done)))
    | (refine AWP.condF ?_ ?_; (focus (simp [go_sem]; done)))
    | (apply AWP.rE; (focus (simp [go_sem]; exact ⟨rfl, rfl⟩)); try dsimp only [thn, inBlk])
    | fail)
  refine AWP.callE (by simp [go_sem, c1]; exact ⟨rfl, rfl, rfl, rfl, rfl⟩) (by kernel_rfl) ?_
  refine (named_calls (l := g.sv) k1 (by omega)).mono ?_
  rintro r h2 ⟨rfl, k2⟩
  have c2 := k2.obj
  cases hnb : nameB g.sv
  · have e : grantB g = false := by simp [grantB, hnb]
    rw [e]
    refine awpL_restE (by simp [go_sem, c2]; exact ⟨rfl, rfl⟩) ?_; try dsimp only [thn, inBlk]
    (repeat' first
      | refine AWP.seq ?_
      | refine AWP.block ?_
      | (refine AWP.skip ?_; try dsimp only [thn, inBlk])
      | (refine AWP.exit ?_; try simp only [thn, inBlk, if_true, reduceIte, Nat.reduceEqDiff])
      | (refine AWP.ret ?_; try dsimp only [thn, inBlk])
      | (refine AWP.condT ?_ ?_; (focus (simp [go_sem]; done)))
      | (refine AWP.condF ?_ ?_; (focus (simp [go_sem]; done)))
      | (apply AWP.rE; (focus (simp [go_sem]; exact ⟨rfl, rfl⟩)); try dsimp only [thn, inBlk])
      | fail)
    simp [bodyQ, thn, inBlk, resA, resV, go_sem]
    exact k2.tail
  refine awpL_toCall (by simp [go_sem, c2]; exact ⟨rfl, rfl, rfl, rfl, rfl⟩) (by kernel_rfl) ?_
  refine (lasts_calls (st := g.st) (en := g.en) (fl := g.fl)).mono ?_
  rintro r h3 ⟨rfl, rfl⟩
  cases hlb : lastsB g.st g.en g.fl
  · have e : grantB g = false := by simp [grantB, hlb]
    rw [e]
    refine awpL_restE (by simp [go_sem, c2]; exact ⟨rfl, rfl⟩) ?_; try dsimp only [thn, inBlk]
    (repeat' first
      | refine AWP.seq ?_
      | refine AWP.block ?_
      | (refine AWP.skip ?_; try dsimp only [thn, inBlk])
      | (refine AWP.exit ?_; try simp only [thn, inBlk, if_true, reduceIte, Nat.reduceEqDiff])
      | (refine AWP.ret ?_; try dsimp only [thn, inBlk])
      | (refine AWP.condT ?_ ?_; (focus (simp [go_sem]; done)))
      | (refine AWP.condF ?_ ?_; (focus (simp [go_sem]; done)))
      | (apply AWP.rE; (focus (simp [go_sem]; exact ⟨rfl, rfl⟩)); try dsimp only [thn, inBlk])
      | fail)
    simp [bodyQ, thn, inBlk, resA, resV, go_sem]
    exact k2.tail
  have e : grantB g = true := by simp [grantB, hnb, hlb]
  rw [e]
  simp only [lastsB, Bool.and_eq_true, decide_eq_true_eq] at hlb
  obtain ⟨⟨⟨⟨l1, l2⟩, l3⟩, l4⟩, l5⟩ := hlb
  refine awpL_restE (by simp [go_sem, c2]; exact ⟨rfl, rfl⟩) ?_; try dsimp only [thn, inBlk]
  (repeat' first
    | refine AWP.seq ?_
    | refine AWP.block ?_
    | (refine AWP.skip ?_; try dsimp only [thn, inBlk])
    | (refine AWP.exit ?_; try simp only [thn, inBlk, if_true, reduceIte, Nat.reduceEqDiff])
    | (refine AWP.ret ?_; try dsimp only [thn, inBlk])
    | (refine AWP.condT ?_ ?_; (focus (simp [go_sem]; done)))
    | (refine AWP.condF ?_ ?_; (focus (simp [go_sem]; done)))
    | (apply AWP.rE; (focus (simp [go_sem]; exact ⟨rfl, rfl⟩)); try dsimp only [thn, inBlk])
    | fail)
  have k4 := k2.push (.row (g.sv.map B) 5 1 false false)
  have c4 := k4.b1.obj
  have a1 : ∀ i, arrSlice Tryd.prog 16 5 i 1 none none none = some (.slice (some ⟨i, 1, none⟩) 16 16) := fun i => by simp [arrSlice, go_sem, bnds]
  refine AWP.draw hmix [.n 0 [1], .n 1 [18], .n 2 [19], .n 3 [1], .n 4 [21], .n 5 [1], .n 6 [23], .n 8 [1], .n 9 [26], .n 11 [1], .n 12 [29], .n 14 [1], .n 15 [32], .w 7 [24] [1, 2, 4, 9, 12, 15], .w 10 [27] [1, 2, 4, 12, 15], .w 13 [30] [1, 2, 4, 15], .w 16 [33] [1, 2, 4], .n 17 [20, 22, 25, 28, 31, 34], .w 18 [35] [], .n 19 [36], .n 20 [36], .n 21 [37], .n 22 [38]] (by kernel_rfl) ?_
  refine awpD_callR 13 (by rfl) (by rfl) (by simp [go_sem, bytesA, c2, c4, sliceR, a1]; exact ⟨rfl, rfl, rfl⟩) (by rfl) (by rfl) (by simp [go_sem]) (by simp [go_sem, bytesA, c2, c4, sliceR, a1]; exact ⟨rfl, rfl⟩) (by kernel_rfl) ?_
  refine (num_calls (n := g.no) k4 hno).mono ?_
  rintro r h6 ⟨a6, p6, b6, l6, rfl, k6⟩
  have uk6 := k6.b1.obj
  have wk6 := k6.b2.obj
  refine ⟨by simp [still, go_sem, bytesA, sliceR, a1, uk6, wk6], ?_⟩
  refine awpD_callR 0 (by rfl) (by rfl) (by simp [go_sem]; exact ⟨rfl, rfl, rfl⟩) (by rfl) (by rfl) (by simp [go_sem]) (by simp [go_sem]; exact ⟨rfl, rfl⟩) (by kernel_rfl) ?_
  refine (snum_calls (n := g.st) k6 (by omega)).mono ?_
  rintro r h7 ⟨a7, p7, b7, l7, rfl, k7⟩
  have uk7 := k7.b2.obj
  have wk7 := k7.b3.obj
  refine ⟨by simp [still, go_sem, bytesA, sliceR, a1, uk7, wk7], ?_⟩
  refine awpD_callR 0 (by rfl) (by rfl) (by simp [go_sem]; exact ⟨rfl, rfl, rfl⟩) (by rfl) (by rfl) (by simp [go_sem]) (by simp [go_sem]; exact ⟨rfl, rfl⟩) (by kernel_rfl) ?_
  refine (snum_calls (n := g.en) k7 (by omega)).mono ?_
  rintro r h8 ⟨a8, p8, b8, l8, rfl, k8⟩
  have uk8 := k8.b3.obj
  have wk8 := k8.b4.obj
  refine ⟨by simp [still, go_sem, bytesA, sliceR, a1, uk8, wk8], ?_⟩
  refine awpD_callR 0 (by rfl) (by rfl) (by simp [go_sem]; exact ⟨rfl, rfl, rfl⟩) (by rfl) (by rfl) (by simp [go_sem]) (by simp [go_sem]; exact ⟨rfl, rfl⟩) (by kernel_rfl) ?_
  refine (snum_calls (n := g.fl) k8 (by omega)).mono ?_
  rintro r h9 ⟨a9, p9, b9, l9, rfl, k9⟩
  have uk9 := k9.b4.obj
  have wk9 := k9.b5.obj
  refine ⟨by simp [still, go_sem, bytesA, sliceR, a1, uk9, wk9], ?_⟩
  generalize hsv : Value.slice (some ⟨h3.next, 0, none⟩) g.sv.length g.sv.length = vsv at *
  obtain ⟨vals, hvals⟩ : ∃ vals : Vs, vals = [(vsv, g.sv), (.slice (some ⟨h.next, 1, none⟩) 16 16, k16 g.ky), (.slice a6 b6.length p6, b6), (.slice a7 b7.length p7, b7), (.slice a8 b8.length p8, b8), (.slice a9 b9.length p9, b9)] := ⟨_, rfl⟩
  have k10 := (k9.push (.row [vsv, .slice (some ⟨h.next, 1, none⟩) 16 16, .slice a6 b6.length p6, .slice a7 b7.length p7, .slice a8 b8.length p8, .slice a9 b9.length p9] 27 1 true false)).row_any (n := 6) rfl
  subst hsv
  refine awpD_callR 1 (by rfl) (by rfl) (by simp [go_sem]; exact ⟨rfl, rfl, rfl⟩) (by rfl) (by rfl) (by simp [go_sem]) (by simp [go_sem]; exact ⟨rfl, rfl⟩) (by kernel_rfl) ?_
  refine (join_calls (vals := vals) (t0 := 21) k10 ?_ (by omega) (by rw [hvals]; simp) ?_).mono ?_
  · intro hh kk
    subst hvals
    refine ⟨kk.os_sl, fun x hx => ?_⟩
    simp only [List.mem_cons, List.not_mem_nil, or_false] at hx
    rcases hx with rfl | rfl | rfl | rfl | rfl | rfl
    · exact (kk.b5.row_any (n := g.sv.length) (by simp)).ob_bytes
    · exact key_bytes kk.b6
    · exact kk.b4.ob_bytes
    · exact kk.b3.ob_bytes
    · exact kk.b2.ob_bytes
    · exact kk.b1.ob_bytes
  · subst hvals
    intro x hx
    simp only [List.mem_cons, List.not_mem_nil, or_false] at hx
    rcases hx with rfl | rfl | rfl | rfl | rfl | rfl
    · show g.sv.length ≤ 65535; omega
    · show (k16 g.ky).length ≤ 65535; rw [k16_len]; omega
    · show b6.length ≤ 65535; omega
    · show b7.length ≤ 65535; omega
    · show b8.length ≤ 65535; omega
    · show b9.length ≤ 65535; omega
  rintro r h11 ⟨x, rfl, k11⟩
  refine ⟨by simp [still, go_sem], ?_⟩
  refine awpD_restR (by rfl) (by simp [go_sem]; exact ⟨rfl, rfl, rfl⟩) ?_; try dsimp only [thn, inBlk]
  (repeat' first
    | refine AWP.seq ?_
    | refine AWP.block ?_
    | (refine AWP.skip ?_; try dsimp only [thn, inBlk])
    | (refine AWP.exit ?_; try simp only [thn, inBlk, if_true, reduceIte, Nat.reduceEqDiff])
    | (refine AWP.ret ?_; try dsimp only [thn, inBlk])
    | (refine AWP.condT ?_ ?_; (focus (simp [go_sem]; done)))
    | (refine AWP.condF ?_ ?_; (focus (simp [go_sem]; done)))
    | (apply AWP.rE; (focus (simp [go_sem]; exact ⟨rfl, rfl⟩)); try dsimp only [thn, inBlk])
    | fail)
  simp [bodyQ, thn, inBlk, resA, resV, go_sem]
  exact k11.tail.tail.tail.tail.tail.tail.tail
end
end L11
