import Derived.Test.YtaieafdiomknoaaDoorL22t
open Go Ab Go.Proofs
namespace L22
set_option autoImplicit false
set_option linter.unusedSimpArgs false
set_option linter.unusedVariables false

abbrev s4 (o : Int) (d : List UInt8) : Rd := ⟨4, 3, 0, o, d, [], 0⟩
theorem s4_put {o : Int} {d l : List UInt8} {c : UInt8} {j : Nat} (hc : ¬ c = 255) (hd : ¬ 3000 ≤ d.length) : evp (s4 o d) j (c :: l) = evp (s4 o (d ++ [c])) (j + 1) l ∧ fin (s4 o d) (c :: l) = fin (s4 o (d ++ [c])) l := by
  simp [evp, fin, takeR, clr, moreR, hc, hd]
theorem s4_long {o : Int} {d l : List UInt8} {c : UInt8} {j : Nat} (hc : ¬ c = 255) (hd : 3000 ≤ d.length) : evp (s4 o d) j (c :: l) = [] ∧ (fin (s4 o d) (c :: l)).br = 23 := by
  simp [evp, fin, takeR, clr, moreR, hc, hd]
  rw [evp_stop (by simp), fin_stop (by simp)]; exact ⟨rfl, rfl⟩
theorem s4_end {o : Int} {d : List UInt8} {j : Nat} : evp (s4 o d) j [] = [] ∧ (fin (s4 o d) []).br = 0 := ⟨rfl, rfl⟩
theorem s4_end1 {o : Int} {d : List UInt8} {j : Nat} : evp (s4 o d) j [255] = [] ∧ (fin (s4 o d) [255]).br = 0 := ⟨rfl, rfl⟩
theorem s4_whole {o : Int} {d l : List UInt8} {j : Nat} : evp (s4 o d) j (255 :: 240 :: l) = (((3, 0, o), d), j + 2) :: evp rd0 (j + 2) l ∧ fin (s4 o d) (255 :: 240 :: l) = fin rd0 l := by
  constructor
  · simp only [evp, takeR, clr, moreR, wholeR]
    simp
    exact (evp_clr _ _ _).symm
  · simp only [fin, takeR, clr, moreR, wholeR]
    simp
    exact (fin_clr _ _).symm
theorem s4_put2 {o : Int} {d l : List UInt8} {j : Nat} (hd : ¬ 3000 ≤ d.length) : evp (s4 o d) j (255 :: 255 :: l) = evp (s4 o (d ++ [255])) (j + 2) l ∧ fin (s4 o d) (255 :: 255 :: l) = fin (s4 o (d ++ [255])) l := by
  simp [evp, fin, takeR, clr, moreR, hd]
theorem s4_long2 {o : Int} {d l : List UInt8} {j : Nat} (hd : 3000 ≤ d.length) : evp (s4 o d) j (255 :: 255 :: l) = [] ∧ (fin (s4 o d) (255 :: 255 :: l)).br = 23 := by
  simp [evp, fin, takeR, clr, moreR, hd]
  rw [evp_stop (by simp), fin_stop (by simp)]; exact ⟨rfl, rfl⟩
theorem s4_bad {o : Int} {d l : List UInt8} {c : UInt8} {j : Nat} (h1 : ¬ c = 255) (h2 : ¬ c = 240) : evp (s4 o d) j (255 :: c :: l) = [] ∧ (fin (s4 o d) (255 :: c :: l)).br = 21 := by
  simp [evp, fin, takeR, clr, moreR, h1, h2]
  rw [evp_stop (by simp), fin_stop (by simp)]; exact ⟨rfl, rfl⟩

/-- What is told of a part's data from a place on. -/
def SubR (bs : List UInt8) (at_ : Nat) (d : List UInt8) (nx e : Int) : Prop :=
  (nx = -1 ∧ ∀ o, evp (s4 o []) at_ (bs.drop at_) = [] ∧ (fin (s4 o []) (bs.drop at_)).br = e) ∨
  ∃ m : Nat, e = 0 ∧ nx = m ∧ at_ < m ∧ m ≤ bs.length ∧ ∀ o, evp (s4 o []) at_ (bs.drop at_) = (((3, 0, o), d), m) :: evp rd0 m (bs.drop m) ∧ fin (s4 o []) (bs.drop at_) = fin rd0 (bs.drop m)

set_option maxHeartbeats 8000000 in
theorem sub_calls {O : Old} {h : AHeap} {R : List Chunk} {v : Value} {bs : List UInt8} {at_ : Nat} (k : Own O h R) (hx : ∀ h, Own O h R → Bytes h v bs) (hm : bs.length ≤ 1000000) (ha : at_ ≤ bs.length) :
    ACalls Tryd.prog 26 #[v, .int .i64 at_] h fun r h' => ∃ d nx e a cap, r = .tuple #[tel 3 0 0 (.slice a d.length cap), .int .i64 nx, .int .i64 e] ∧ SubR bs at_ d nx e ∧ d.length ≤ 3000 ∧ Own O h' (ob 5 (.slice a d.length cap) d :: R) := by
  obtain ⟨va, vc, rfl⟩ := (hx h k).val
  refine ACalls.of_awp (args := [.slice va bs.length vc, .int .i64 at_]) (n := 57) Tryd.func26 rfl rfl (by show 2 ≤ 57; omega) ?_
  have k1 := k.push (trow 0 0 0 (.slice none 0 0))
  have k2 := (k1.push (trow 0 0 0 (.slice none 0 0))).set (trow 3 0 0 (.slice none 0 0))
  (repeat' first
    | refine AWP.seq ?_
    | refine AWP.block ?_
    | (refine AWP.skip ?_; try dsimp only [thn, inBlk])
    | (refine AWP.exit ?_; try simp only [thn, inBlk, if_true, reduceIte, Nat.reduceEqDiff])
    | (refine AWP.ret ?_; try dsimp only [thn, inBlk])
    | (refine AWP.condT ?_ ?_; (focus (simp [go_sem]; done)))
    | (refine AWP.condF ?_ ?_; (focus (simp [go_sem]; done)))
    | (apply AWP.rE; (focus (simp [go_sem]; exact ⟨rfl, rfl⟩)); try dsimp only [thn, inBlk])
    | fail)
  have q1 : (h.push (trow 0 0 0 (.slice none 0 0))).next = h.next + 1 := push_next _ _
  rw [q1] at k2
  generalize ((h.push (trow 0 0 0 (.slice none 0 0))).push (trow 0 0 0 (.slice none 0 0))).set (h.next + 1) (trow 3 0 0 (.slice none 0 0)) = h2 at k2 ⊢
  generalize h.next = p4 at k2 ⊢
  refine AWP.loopR [0, 4, 7, 8] (fun m s h' => ∃ j d a cap, at_ ≤ j ∧ j ≤ bs.length ∧ m = bs.length - j ∧ s = ⟨57, [(0, .slice va bs.length vc), (4, ptr p4), (7, ptr (p4 + 1)), (8, .int .i64 (j : Nat))]⟩ ∧ d.length ≤ 3000 ∧
    (∀ o, evp (s4 o []) at_ (bs.drop at_) = evp (s4 o d) j (bs.drop j) ∧ fin (s4 o []) (bs.drop at_) = fin (s4 o d) (bs.drop j)) ∧
    Own O h' (cell (p4 + 1) (trow 3 0 0 (.slice a d.length cap)) :: ob 5 (.slice a d.length cap) d :: cell p4 (trow 0 0 0 (.slice none 0 0)) :: R)) ?_ ?_
  · refine ⟨_, at_, [], none, 0, Nat.le_refl _, ha, rfl, rfl, by simp, fun o => ⟨rfl, rfl⟩, ?_⟩
    exact (k2.nil 5 1).b1
  rintro m s hB ⟨j, d, a, cap, haj, hj, rfl, rfl, hd, hI, kB⟩
  have c7 := kB.obj
  have c4 := kB.b2.obj
  by_cases hjm : j < bs.length
  rotate_left
  · have hjm' : ¬ (j : Int) < bs.length := by omega
    have hdr : bs.drop j = [] := List.drop_eq_nil_iff.2 (by omega)
    rw [hdr] at hI
    have k9 := kB.b2.set (trow 3 0 0 (.slice a d.length cap))
    have c9 := k9.obj
    (repeat' first
      | refine AWP.seq ?_
      | refine AWP.block ?_
      | (refine AWP.skip ?_; try dsimp only [thn, inBlk])
      | (refine AWP.exit ?_; try simp only [thn, inBlk, if_true, reduceIte, Nat.reduceEqDiff])
      | (refine AWP.ret ?_; try dsimp only [thn, inBlk])
      | (refine AWP.condT ?_ ?_; (focus (simp [go_sem, hjm', c7, c4]; done)))
      | (refine AWP.condF ?_ ?_; (focus (simp [go_sem, hjm', c7, c4]; done)))
      | (apply AWP.rE; (focus (simp [go_sem, hjm', c7, c4]; exact ⟨rfl, rfl⟩)); try dsimp only [thn, inBlk])
      | fail)
    simp [bodyQ, thn, inBlk, resA, resV, go_sem, c9]
    exact ⟨d, _, _, a, cap, ⟨⟨rfl, rfl, rfl⟩, rfl, rfl⟩, .inl ⟨rfl, fun o => by rw [(hI o).1, (hI o).2]; exact s4_end⟩, hd, k9.d1.tail⟩
  have hjm' : (j : Int) < bs.length := by omega
  obtain ⟨i0, o0, r0, e0, z0, ti0, ro0, p0, q0, g0⟩ := (hx hB kB.tail.tail.tail).at (P := Tryd.prog) (t := 22) Tryd.underlying22 tsz5 (j := j) hjm (kd := .i64)
  have hdr : bs.drop j = bs[j] :: bs.drop (j + 1) := List.drop_eq_getElem_cons hjm
  obtain ⟨c, hcc⟩ : ∃ c, c = bs[j] := ⟨_, rfl⟩
  simp only [← hcc] at g0 hdr
  rw [hdr] at hI
  by_cases hc : c = 255
  rotate_left
  · have hc' : ((c.toNat : Int) == 255) = false := neI (d := 255) hc
    by_cases hl : 3000 ≤ d.length
    · have hl' : (3000 : Int) ≤ d.length := by omega
      have k9 := kB.b2.set (trow 3 0 0 (.slice a d.length cap))
      have c9 := k9.obj
      (repeat' first
        | refine AWP.seq ?_
        | refine AWP.block ?_
        | (refine AWP.skip ?_; try dsimp only [thn, inBlk])
        | (refine AWP.exit ?_; try simp only [thn, inBlk, if_true, reduceIte, Nat.reduceEqDiff])
        | (refine AWP.ret ?_; try dsimp only [thn, inBlk])
        | (refine AWP.condT ?_ ?_; (focus (simp [go_sem, hjm', p0, q0, g0, c7, c4, hc', hl']; done)))
        | (refine AWP.condF ?_ ?_; (focus (simp [go_sem, hjm', p0, q0, g0, c7, c4, hc', hl']; done)))
        | (apply AWP.rE; (focus (simp [go_sem, hjm', p0, q0, g0, c7, c4, hc', hl']; exact ⟨rfl, rfl⟩)); try dsimp only [thn, inBlk])
        | fail)
      simp [bodyQ, thn, inBlk, resA, resV, go_sem, c9]
      exact ⟨d, _, _, a, cap, ⟨⟨rfl, rfl, rfl⟩, rfl, rfl⟩, (.inl ⟨rfl, fun o => by rw [(hI o).1, (hI o).2]; exact s4_long hc hl⟩), hd, k9.d1.tail⟩
    · have w1 : IntKind.i64.wrap ((j : Int) + 1) = ((j + 1 : Nat) : Int) := by rw [wI64 (by omega) (by omega)]; omega
      obtain ⟨a2, cap2, h3, e3, k3⟩ := Own.appB1 (P := Tryd.prog) (t := 22) (xt := 22) (c := c) Tryd.underlying22 tsz5 tby5 tz5 nI22 kB.b1 rfl (by omega)
      have c7' := k3.b1.obj
      have k5 := k3.b1.set (trow 3 0 0 (.slice a2 (d.length + 1) cap2))
      have hl3 : ¬ (3000 : Int) ≤ d.length := by omega
      (repeat' first
        | refine AWP.seq ?_
        | refine AWP.block ?_
        | (refine AWP.skip ?_; try dsimp only [thn, inBlk])
        | (refine AWP.exit ?_; try simp only [thn, inBlk, if_true, reduceIte, Nat.reduceEqDiff])
        | (refine AWP.ret ?_; try dsimp only [thn, inBlk])
        | (refine AWP.condT ?_ ?_; (focus (simp [go_sem, hjm', p0, q0, g0, c7, c4, hl3, e3, c7', hc', w1]; done)))
        | (refine AWP.condF ?_ ?_; (focus (simp [go_sem, hjm', p0, q0, g0, c7, c4, hl3, e3, c7', hc', w1]; done)))
        | (apply AWP.rE; (focus (simp [go_sem, hjm', p0, q0, g0, c7, c4, hl3, e3, c7', hc', w1]; exact ⟨rfl, rfl⟩)); try dsimp only [thn, inBlk])
        | fail)
      refine ⟨bs.length - (j + 1), by omega, (j + 1), d ++ [c], a2, cap2, by omega, by omega, rfl, by simp [go_sem], by simp; omega, (fun o => by rw [(hI o).1, (hI o).2]; exact s4_put hc hl), ?_⟩
      rw [show (d ++ [c]).length = d.length + 1 by simp]
      exact k5
  have hc' : ((c.toNat : Int) == 255) = true := by rw [hc]; rfl
  have w1 : IntKind.i64.wrap ((j : Int) + 1) = ((j + 1 : Nat) : Int) := by rw [wI64 (by omega) (by omega)]; omega
  rw [hc] at hI
  by_cases hj1 : j + 1 < bs.length
  rotate_left
  · have hj1' : (bs.length : Int) ≤ ((j + 1 : Nat) : Int) := by omega
    have hdr1 : bs.drop (j + 1) = [] := List.drop_eq_nil_iff.2 (by omega)
    rw [hdr1] at hI
    generalize j + 1 = j1 at w1 hj1'
    have k9 := kB.b2.set (trow 3 0 0 (.slice a d.length cap))
    have c9 := k9.obj
    (repeat' first
      | refine AWP.seq ?_
      | refine AWP.block ?_
      | (refine AWP.skip ?_; try dsimp only [thn, inBlk])
      | (refine AWP.exit ?_; try simp only [thn, inBlk, if_true, reduceIte, Nat.reduceEqDiff])
      | (refine AWP.ret ?_; try dsimp only [thn, inBlk])
      | (refine AWP.condT ?_ ?_; (focus (simp [go_sem, hjm', p0, q0, g0, c7, c4, hc', w1, hj1']; done)))
      | (refine AWP.condF ?_ ?_; (focus (simp [go_sem, hjm', p0, q0, g0, c7, c4, hc', w1, hj1']; done)))
      | (apply AWP.rE; (focus (simp [go_sem, hjm', p0, q0, g0, c7, c4, hc', w1, hj1']; exact ⟨rfl, rfl⟩)); try dsimp only [thn, inBlk])
      | fail)
    simp [bodyQ, thn, inBlk, resA, resV, go_sem, c9]
    exact ⟨d, _, _, a, cap, ⟨⟨rfl, rfl, rfl⟩, rfl, rfl⟩, (.inl ⟨rfl, fun o => by rw [(hI o).1, (hI o).2]; exact s4_end1⟩), hd, k9.d1.tail⟩
  have hj1' : ¬ (bs.length : Int) ≤ ((j + 1 : Nat) : Int) := by omega
  obtain ⟨i1, o1, r1, e1, z1, ti1, ro1, p1, q1, g1⟩ := (hx hB kB.tail.tail.tail).at (P := Tryd.prog) (t := 22) Tryd.underlying22 tsz5 (j := j + 1) hj1 (kd := .i64)
  have hdr1 : bs.drop (j + 1) = bs[j + 1] :: bs.drop (j + 2) := List.drop_eq_getElem_cons hj1
  obtain ⟨x, hxx⟩ : ∃ x, x = bs[j + 1] := ⟨_, rfl⟩
  simp only [← hxx] at g1 hdr1
  rw [hdr1] at hI
  obtain ⟨j1, hj1e⟩ : ∃ j1, j1 = j + 1 := ⟨_, rfl⟩
  rw [← hj1e] at w1 hj1' p1
  have w2 : IntKind.i64.wrap ((j1 : Int) + 1) = ((j + 2 : Nat) : Int) := by rw [wI64 (by omega) (by omega)]; omega
  by_cases h240 : x = 240
  · have h240' : ((x.toNat : Int) == 240) = true := by rw [h240]; rfl
    rw [h240] at hI
    have k9 := kB.b2.set (trow 3 0 0 (.slice a d.length cap))
    have c9 := k9.obj
    (repeat' first
      | refine AWP.seq ?_
      | refine AWP.block ?_
      | (refine AWP.skip ?_; try dsimp only [thn, inBlk])
      | (refine AWP.exit ?_; try simp only [thn, inBlk, if_true, reduceIte, Nat.reduceEqDiff])
      | (refine AWP.ret ?_; try dsimp only [thn, inBlk])
      | (refine AWP.condT ?_ ?_; (focus (simp [go_sem, hjm', p0, q0, g0, c7, c4, hc', w1, hj1', p1, q1, g1, h240', w2]; done)))
      | (refine AWP.condF ?_ ?_; (focus (simp [go_sem, hjm', p0, q0, g0, c7, c4, hc', w1, hj1', p1, q1, g1, h240', w2]; done)))
      | (apply AWP.rE; (focus (simp [go_sem, hjm', p0, q0, g0, c7, c4, hc', w1, hj1', p1, q1, g1, h240', w2]; exact ⟨rfl, rfl⟩)); try dsimp only [thn, inBlk])
      | fail)
    simp [bodyQ, thn, inBlk, resA, resV, go_sem, c9]
    exact ⟨d, _, _, a, cap, ⟨⟨rfl, rfl, rfl⟩, rfl, rfl⟩, (.inr ⟨j + 2, rfl, rfl, by omega, by omega, fun o => by rw [(hI o).1, (hI o).2]; exact s4_whole⟩), hd, k9.d1.tail⟩
  have h240' : ((x.toNat : Int) == 240) = false := neI (d := 240) h240
  by_cases h255 : x = 255
  rotate_left
  · have h255' : ((x.toNat : Int) != 255) = true := by have := neB (d := 255) h255; simp at this ⊢; omega
    have k9 := kB.b2.set (trow 3 0 0 (.slice a d.length cap))
    have c9 := k9.obj
    (repeat' first
      | refine AWP.seq ?_
      | refine AWP.block ?_
      | (refine AWP.skip ?_; try dsimp only [thn, inBlk])
      | (refine AWP.exit ?_; try simp only [thn, inBlk, if_true, reduceIte, Nat.reduceEqDiff])
      | (refine AWP.ret ?_; try dsimp only [thn, inBlk])
      | (refine AWP.condT ?_ ?_; (focus (simp [go_sem, hjm', p0, q0, g0, c7, c4, hc', w1, hj1', p1, q1, g1, h240', h255']; done)))
      | (refine AWP.condF ?_ ?_; (focus (simp [go_sem, hjm', p0, q0, g0, c7, c4, hc', w1, hj1', p1, q1, g1, h240', h255']; done)))
      | (apply AWP.rE; (focus (simp [go_sem, hjm', p0, q0, g0, c7, c4, hc', w1, hj1', p1, q1, g1, h240', h255']; exact ⟨rfl, rfl⟩)); try dsimp only [thn, inBlk])
      | fail)
    simp [bodyQ, thn, inBlk, resA, resV, go_sem, c9]
    exact ⟨d, _, _, a, cap, ⟨⟨rfl, rfl, rfl⟩, rfl, rfl⟩, (.inl ⟨rfl, fun o => by rw [(hI o).1, (hI o).2]; exact s4_bad h255 h240⟩), hd, k9.d1.tail⟩
  have h255' : ((x.toNat : Int) != 255) = false := by rw [h255]; rfl
  rw [h255] at hI
  by_cases hl : 3000 ≤ d.length
  · have hl' : (3000 : Int) ≤ d.length := by omega
    have k9 := kB.b2.set (trow 3 0 0 (.slice a d.length cap))
    have c9 := k9.obj
    (repeat' first
      | refine AWP.seq ?_
      | refine AWP.block ?_
      | (refine AWP.skip ?_; try dsimp only [thn, inBlk])
      | (refine AWP.exit ?_; try simp only [thn, inBlk, if_true, reduceIte, Nat.reduceEqDiff])
      | (refine AWP.ret ?_; try dsimp only [thn, inBlk])
      | (refine AWP.condT ?_ ?_; (focus (simp [go_sem, hjm', p0, q0, g0, c7, c4, hc', w1, hj1', p1, q1, g1, h240', h255', hl']; done)))
      | (refine AWP.condF ?_ ?_; (focus (simp [go_sem, hjm', p0, q0, g0, c7, c4, hc', w1, hj1', p1, q1, g1, h240', h255', hl']; done)))
      | (apply AWP.rE; (focus (simp [go_sem, hjm', p0, q0, g0, c7, c4, hc', w1, hj1', p1, q1, g1, h240', h255', hl']; exact ⟨rfl, rfl⟩)); try dsimp only [thn, inBlk])
      | fail)
    simp [bodyQ, thn, inBlk, resA, resV, go_sem, c9]
    exact ⟨d, _, _, a, cap, ⟨⟨rfl, rfl, rfl⟩, rfl, rfl⟩, (.inl ⟨rfl, fun o => by rw [(hI o).1, (hI o).2]; exact s4_long2 hl⟩), hd, k9.d1.tail⟩
  · have hd' := hd
    obtain ⟨a2, cap2, h3, e3, k3⟩ := Own.appB1 (P := Tryd.prog) (t := 22) (xt := 22) (c := c) Tryd.underlying22 tsz5 tby5 tz5 nI22 kB.b1 rfl (by omega)
    have c7' := k3.b1.obj
    have k5 := k3.b1.set (trow 3 0 0 (.slice a2 (d.length + 1) cap2))
    have hl3 : ¬ (3000 : Int) ≤ d.length := by omega
    (repeat' first
      | refine AWP.seq ?_
      | refine AWP.block ?_
      | (refine AWP.skip ?_; try dsimp only [thn, inBlk])
      | (refine AWP.exit ?_; try simp only [thn, inBlk, if_true, reduceIte, Nat.reduceEqDiff])
      | (refine AWP.ret ?_; try dsimp only [thn, inBlk])
      | (refine AWP.condT ?_ ?_; (focus (simp [go_sem, hjm', p0, q0, g0, c7, c4, hl3, e3, c7', hc', w1, hj1', p1, q1, g1, h240', h255', w2]; done)))
      | (refine AWP.condF ?_ ?_; (focus (simp [go_sem, hjm', p0, q0, g0, c7, c4, hl3, e3, c7', hc', w1, hj1', p1, q1, g1, h240', h255', w2]; done)))
      | (apply AWP.rE; (focus (simp [go_sem, hjm', p0, q0, g0, c7, c4, hl3, e3, c7', hc', w1, hj1', p1, q1, g1, h240', h255', w2]; exact ⟨rfl, rfl⟩)); try dsimp only [thn, inBlk])
      | fail)
    refine ⟨bs.length - (j + 2), by omega, (j + 2), d ++ [c], a2, cap2, by omega, by omega, rfl, by simp [go_sem], by simp; omega, (fun o => by rw [(hI o).1, (hI o).2, hc]; exact s4_put2 hl), ?_⟩
    rw [show (d ++ [c]).length = d.length + 1 by simp]
    exact k5
end L22
