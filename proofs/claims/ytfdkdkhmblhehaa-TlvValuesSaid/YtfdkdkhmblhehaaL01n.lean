import Derived.Test.YtfdkdkhmblhehaaL01m
open Go Ab Go.Proofs
namespace L01
set_option autoImplicit false
set_option linter.unusedSimpArgs false
set_option linter.unusedVariables false

def Fsx (h : AHeap) (v : Value) (fs : List F) (ac : List (Option Addr × Nat)) : Prop := ac.length = fs.length ∧ Sl 2 h v fs.length (rcells pre fs ac).flatten ∧ ∀ (j : Nat) (f : F) (p : Option Addr × Nat), fs[j]? = some f → ac[j]? = some p → Bytes h (.slice p.1 f.2.length p.2) f.2
theorem Fsx.fs {h : AHeap} {v : Value} {fs : List F} {ac : List (Option Addr × Nat)} (k : Fsx h v fs ac) : Fs h v fs := ⟨ac, k.1, k.2.1, k.2.2⟩
theorem Fsx.of_old {h0 h : AHeap} {L : List Chunk} {v : Value} {fs : List F} {ac : List (Option Addr × Nat)} (k : Fsx h0 v fs ac) (hb : h0.base = h0.next) (o : Own h0.asOld h L) : Fsx h v fs ac :=
  ⟨k.1, k.2.1.of_old hb o, fun j f p h1 h2 => (k.2.2 j f p h1 h2).of_old hb o⟩
theorem Fsx.at {h : AHeap} {v : Value} {fs : List F} {ac : List (Option Addr × Nat)} (k : Fsx h v fs ac) {j : Nat} (hj : j < fs.length) : ∃ i off c e' sz' ti ro, indexAddrP Try.prog 29 v (.int .i64 j) = some (.pointer (some ⟨i, off, none⟩)) ∧ h.obj i = some (.row c e' sz' ti ro) ∧ off + 2 ≤ c.length ∧
    c[off]? = some (.int .i64 fs[j].1) ∧ c[off + 1]? = some (.slice (ac[j]'(by have := k.1; omega)).1 fs[j].2.length (ac[j]'(by have := k.1; omega)).2) ∧ Bytes h (.slice (ac[j]'(by have := k.1; omega)).1 fs[j].2.length (ac[j]'(by have := k.1; omega)).2) fs[j].2 := by
  obtain ⟨ha, sl, hb⟩ := k
  have hja : j < ac.length := by omega
  have hall : ∀ y ∈ rcells pre fs ac, y.length = 2 := rcells_all (pre := pre) (sz := 2) (fun _ => rfl) ac
  obtain ⟨i, off, c, e', sz', ti, ro, q1, q2, q3, q4, q5⟩ := sl.record (P := Try.prog) (t := 29) Try.underlying29 tsz46 hall (rcells_length ha) hj (kd := .i64)
  have e : (rcells pre fs ac)[j]'(by rw [rcells_length ha]; exact hj) = [.int .i64 fs[j].1, .slice ac[j].1 fs[j].2.length ac[j].2] := by simp [rcells, rec1, pre]
  rw [e] at q5
  exact ⟨i, off, c, e', sz', ti, ro, q1, q2, q3, q5 0 _ rfl, q5 1 _ rfl, hb j _ _ (List.getElem?_eq_getElem hj) (List.getElem?_eq_getElem hja)⟩

theorem encF_len (f : F) : (T1.encF f).length = f.2.length + 3 := by simp [T1.encF]


set_option maxHeartbeats 8000000 in
theorem refJoin_calls {O : Old} {h : AHeap} {R : List Chunk} {v : Value} {fs : List F} {ac : List (Option Addr × Nat)} (k : Own O h R) (hx : ∀ h, Own O h R → Fsx h v fs ac) (hm : T1.tot fs ≤ 1000000) :
    ACalls Try.prog 18 #[v] h fun r h' => ∃ a c, r = .tuple #[.slice a (T1.joinGo [] fs).1.length c, .int .i64 (T1.joinGo [] fs).2] ∧ Own O h' (ob 5 (.slice a (T1.joinGo [] fs).1.length c) (T1.joinGo [] fs).1 :: R) := by
  obtain ⟨va, vc, rfl⟩ := (hx h k).fs.val
  have hl := T1.tot_len fs
  refine ACalls.of_awp (args := [.slice va fs.length vc]) (n := 50) Try.func18 rfl rfl (by show 1 ≤ 50; omega) ?_
  have k1 : Own O _ (ob 5 (.slice (some ⟨h.next, 0, none⟩) 0 0) [] :: R) := (k.push (.row [] 5 1 true false)).row_any (n := 0) rfl
  (repeat' first
    | refine AWP.seq ?_
    | refine AWP.block ?_
    | (refine AWP.skip ?_; try dsimp only [thn, inBlk])
    | (refine AWP.exit ?_; try simp only [thn, inBlk, if_true, reduceIte, Nat.reduceEqDiff])
    | (refine AWP.ret ?_; try dsimp only [thn, inBlk])
    | (refine AWP.condT ?_ ?_; (focus (simp [go_sem]; done)))
    | (refine AWP.condF ?_ ?_; (focus (simp [go_sem]; done)))
    | (apply AWP.rE; (focus (simp [go_sem]; exact ⟨rfl, rfl⟩)); try dsimp only [thn, inBlk])
    | fail)
  refine AWP.loopR [0, 4, 5] (fun m s' h' => ∃ (j : Nat) (acc : List UInt8) (a : Option Addr) (c : Nat), j ≤ fs.length ∧ m = fs.length - j ∧ acc.length + T1.tot (fs.drop j) ≤ 1000000 ∧ T1.joinGo [] fs = T1.joinGo acc (fs.drop j) ∧ s' = ⟨50, [(0, .slice va fs.length vc), (4, .slice a acc.length c), (5, .int .i64 j)]⟩ ∧ Own O h' (ob 5 (.slice a acc.length c) acc :: R)) ?_ ?_
  · exact ⟨_, 0, [], some ⟨h.next, 0, none⟩, 0, by omega, rfl, by simpa using hm, by simp, by simp [go_sem], k1⟩
  rintro m s' h' ⟨j, acc, a, c, hj, rfl, hlen, hjo, rfl, kt⟩
  by_cases hj2 : j < fs.length
  rotate_left
  · have hj3 : ¬ (j : Int) < fs.length := by omega
    rw [List.drop_of_length_le (by omega)] at hjo
    rw [hjo, T1.joinGo]
    (repeat' first
      | refine AWP.seq ?_
      | refine AWP.block ?_
      | (refine AWP.skip ?_; try dsimp only [thn, inBlk])
      | (refine AWP.exit ?_; try simp only [thn, inBlk, if_true, reduceIte, Nat.reduceEqDiff])
      | (refine AWP.ret ?_; try dsimp only [thn, inBlk])
      | (refine AWP.condT ?_ ?_; (focus (simp [go_sem, hj3]; done)))
      | (refine AWP.condF ?_ ?_; (focus (simp [go_sem, hj3]; done)))
      | (apply AWP.rE; (focus (simp [go_sem, hj3]; exact ⟨rfl, rfl⟩)); try dsimp only [thn, inBlk])
      | fail)
    simp [bodyQ, thn, inBlk, resA, resV, go_sem]
    exact ⟨_, _, ⟨rfl, rfl⟩, kt⟩
  have hj3 : (j : Int) < fs.length := by omega
  have wj : IntKind.i64.wrap ((j : Int) + 1) = ((j + 1 : Nat) : Int) := by rw [wI64 (by omega) (by omega)]; omega
  obtain ⟨bi, bo, bc, be, bz, bt, br, q1, q2, q3, q4, q5, q6⟩ := (hx _ kt.tail).at hj2
  rw [List.drop_eq_getElem_cons hj2] at hjo hlen
  rw [T1.joinGo] at hjo
  simp only [T1.tot] at hlen
  generalize hp : ac[j]'(by have := (hx _ kt.tail).1; omega) = p at *
  generalize hf : fs[j] = f at *
  obtain ⟨tag, body⟩ := f
  obtain ⟨wa, wc⟩ := p
  simp only at q4 q5 q6 hlen hjo
  by_cases t1 : tag < 1
  · rw [if_pos (.inl t1)] at hjo
    have kf : Own O _ (ob 5 (.slice (some ⟨h'.next, 0, none⟩) 0 0) [] :: _) := (kt.push (.row [] 5 1 true false)).row_any (n := 0) rfl
    rw [hjo]
    (repeat' first
      | refine AWP.seq ?_
      | refine AWP.block ?_
      | (refine AWP.skip ?_; try dsimp only [thn, inBlk])
      | (refine AWP.exit ?_; try simp only [thn, inBlk, if_true, reduceIte, Nat.reduceEqDiff])
      | (refine AWP.ret ?_; try dsimp only [thn, inBlk])
      | (refine AWP.condT ?_ ?_; (focus (simp [go_sem, hj2,hj3,q1,q2,q4,t1]; done)))
      | (refine AWP.condF ?_ ?_; (focus (simp [go_sem, hj2,hj3,q1,q2,q4,t1]; done)))
      | (apply AWP.rE; (focus (simp [go_sem, hj2,hj3,q1,q2,q4,t1]; exact ⟨rfl, rfl⟩)); try dsimp only [thn, inBlk])
      | fail)
    simp [bodyQ, thn, inBlk, resA, resV, go_sem]
    exact ⟨_, _, ⟨rfl, rfl⟩, kf.d1⟩
  by_cases t2 : 255 < tag
  · rw [if_pos (.inr t2)] at hjo
    have kf : Own O _ (ob 5 (.slice (some ⟨h'.next, 0, none⟩) 0 0) [] :: _) := (kt.push (.row [] 5 1 true false)).row_any (n := 0) rfl
    rw [hjo]
    (repeat' first
      | refine AWP.seq ?_
      | refine AWP.block ?_
      | (refine AWP.skip ?_; try dsimp only [thn, inBlk])
      | (refine AWP.exit ?_; try simp only [thn, inBlk, if_true, reduceIte, Nat.reduceEqDiff])
      | (refine AWP.ret ?_; try dsimp only [thn, inBlk])
      | (refine AWP.condT ?_ ?_; (focus (simp [go_sem, hj2,hj3,q1,q2,q4,t1,t2]; done)))
      | (refine AWP.condF ?_ ?_; (focus (simp [go_sem, hj2,hj3,q1,q2,q4,t1,t2]; done)))
      | (apply AWP.rE; (focus (simp [go_sem, hj2,hj3,q1,q2,q4,t1,t2]; exact ⟨rfl, rfl⟩)); try dsimp only [thn, inBlk])
      | fail)
    simp [bodyQ, thn, inBlk, resA, resV, go_sem]
    exact ⟨_, _, ⟨rfl, rfl⟩, kf.d1⟩
  rw [if_neg (by omega)] at hjo
  by_cases t3 : 65535 < body.length
  · have t3' : (65535 : Int) < body.length := by omega
    rw [if_pos t3] at hjo
    have kf : Own O _ (ob 5 (.slice (some ⟨h'.next, 0, none⟩) 0 0) [] :: _) := (kt.push (.row [] 5 1 true false)).row_any (n := 0) rfl
    rw [hjo]
    (repeat' first
      | refine AWP.seq ?_
      | refine AWP.block ?_
      | (refine AWP.skip ?_; try dsimp only [thn, inBlk])
      | (refine AWP.exit ?_; try simp only [thn, inBlk, if_true, reduceIte, Nat.reduceEqDiff])
      | (refine AWP.ret ?_; try dsimp only [thn, inBlk])
      | (refine AWP.condT ?_ ?_; (focus (simp [go_sem, hj2,hj3,q1,q2,q4,q5,t1,t2,t3,t3']; done)))
      | (refine AWP.condF ?_ ?_; (focus (simp [go_sem, hj2,hj3,q1,q2,q4,q5,t1,t2,t3,t3']; done)))
      | (apply AWP.rE; (focus (simp [go_sem, hj2,hj3,q1,q2,q4,q5,t1,t2,t3,t3']; exact ⟨rfl, rfl⟩)); try dsimp only [thn, inBlk])
      | fail)
    simp [bodyQ, thn, inBlk, resA, resV, go_sem]
    exact ⟨_, _, ⟨rfl, rfl⟩, kf.d1⟩
  have t3' : ¬ (65535 : Int) < body.length := by omega
  rw [if_neg t3] at hjo
  (repeat' first
    | refine AWP.seq ?_
    | refine AWP.block ?_
    | (refine AWP.skip ?_; try dsimp only [thn, inBlk])
    | (refine AWP.exit ?_; try simp only [thn, inBlk, if_true, reduceIte, Nat.reduceEqDiff])
    | (refine AWP.ret ?_; try dsimp only [thn, inBlk])
    | (refine AWP.condT ?_ ?_; (focus (simp [go_sem, hj2, hj3, q1, q2, q4, q5, t1, t2, t3, t3']; done)))
    | (refine AWP.condF ?_ ?_; (focus (simp [go_sem, hj2, hj3, q1, q2, q4, q5, t1, t2, t3, t3']; done)))
    | (apply AWP.rE; (focus (simp [go_sem, hj2, hj3, q1, q2, q4, q5, t1, t2, t3, t3']; exact ⟨rfl, rfl⟩)); try dsimp only [thn, inBlk])
    | fail)
  refine AWP.draw hmix [.n 0 [4], .n 1 [0], .n 2 [5], .n 3 [37, 38], .n 4 [39], .n 5 [40], .n 6 [0], .n 7 [5], .n 8 [42, 43], .n 9 [44], .n 10 [45], .w 11 [41, 46] [], .w 12 [36, 47] [], .n 13 [48]] (by kernel_rfl) ?_
  refine awpD_callR 11 (by rfl) (by rfl) (by simp [go_sem, q1, q2, q4, q5]; exact ⟨rfl, rfl, rfl⟩) (by rfl) (by rfl) (by simp [go_sem]) (by simp [go_sem, q1, q2, q4, q5]; exact ⟨rfl, rfl⟩) (by kernel_rfl) ?_
  refine (refField_calls (t := tag) (bs := body) kt q6 (by omega) (by omega) (by omega)).mono ?_
  rintro r h5 ⟨a5, c5, rfl, k5⟩
  obtain ⟨bi2, bo2, bc2, be2, bz2, bt2, br2, p1, p2, p3, p4, p5, p6⟩ := (hx _ k5.tail.tail).at hj2
  simp only [hp, hf] at p4 p5 p6
  cases q1.symm.trans p1
  refine ⟨by simp [still, go_sem, q1, q2, q4, q5, p2, p4, p5], ?_⟩
  obtain ⟨a6, c6, h6, e6, k6⟩ := k5.b1.appB (P := Try.prog) (t := 24) (xt := 24) Try.underlying24 tsz5 tby5 tz5 nI24 k5.ob_bytes.src (by rw [encF_len]; simp; omega)
  refine awpD_writeR 0 (by rfl) (by rfl) (by simp [go_sem, q1, p2, p4, p5, e6]; exact ⟨rfl, rfl, rfl⟩) (by rfl) (by rfl) (by simp [go_sem]) (by simp [go_sem, q1, p2, p4, p5, e6]; exact ⟨rfl, rfl⟩) (by simp [still, go_sem, q1, p2, p4, p5, e6]) ?_
  refine awpD_restR (by rfl) (by simp [go_sem]; exact ⟨rfl, rfl, rfl⟩) ?_; try dsimp only [thn, inBlk]
  (repeat' first
    | refine AWP.seq ?_
    | refine AWP.block ?_
    | (refine AWP.skip ?_; try dsimp only [thn, inBlk])
    | (refine AWP.exit ?_; try simp only [thn, inBlk, if_true, reduceIte, Nat.reduceEqDiff])
    | (refine AWP.ret ?_; try dsimp only [thn, inBlk])
    | (refine AWP.condT ?_ ?_; (focus (simp [go_sem, wj]; done)))
    | (refine AWP.condF ?_ ?_; (focus (simp [go_sem, wj]; done)))
    | (apply AWP.rE; (focus (simp [go_sem, wj]; exact ⟨rfl, rfl⟩)); try dsimp only [thn, inBlk])
    | fail)
  refine ⟨fs.length - (j + 1), by omega, j + 1, acc ++ T1.encF (tag, body), a6, c6, by omega, rfl, ?_, hjo, by simp [go_sem], ?_⟩
  · rw [List.length_append, encF_len]; simp only; omega
  · rw [List.length_append]; exact k6.d1
end L01
