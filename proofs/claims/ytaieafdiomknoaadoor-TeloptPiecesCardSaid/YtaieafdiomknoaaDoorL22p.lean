import Derived.Test.YtaieafdiomknoaaDoorL22l
open Go Ab Go.Proofs
namespace L22
set_option autoImplicit false
set_option linter.unusedSimpArgs false
set_option linter.unusedVariables false

/-! ### bytes.Equal, HasPrefix, CutPrefix, Clone; parts of authentication -/
theorem equal_calls {h : AHeap} {v w : Value} {a b : List UInt8} (hx : Bytes h v a) (hy : Bytes h w b) :
    ACalls Tryd.prog 37 #[v, w] h fun r h' => r = .bool (a == b) ∧ h' = h := by
  refine ACalls.of_awp (args := [v, w]) (n := 10) Tryd.func37 rfl rfl (by show 2 ≤ 10; omega) ?_
  obtain ⟨va, vc, rfl⟩ := hx.val
  obtain ⟨wa, wc, rfl⟩ := hy.val
  have s1 := hx.str (P := Tryd.prog) (t := 22) (e := 5) (u := 9) Tryd.underlying22 Tryd.underlying5 Tryd.underlying9
  have s2 := hy.str (P := Tryd.prog) (t := 22) (e := 5) (u := 9) Tryd.underlying22 Tryd.underlying5 Tryd.underlying9
  (repeat' first
    | refine AWP.seq ?_
    | refine AWP.block ?_
    | (refine AWP.skip ?_; try dsimp only [thn, inBlk])
    | (refine AWP.exit ?_; try simp only [thn, inBlk, if_true, reduceIte, Nat.reduceEqDiff])
    | (refine AWP.ret ?_; try dsimp only [thn, inBlk])
    | (refine AWP.condT ?_ ?_; (focus (simp [go_sem, s1, s2]; done)))
    | (refine AWP.condF ?_ ?_; (focus (simp [go_sem, s1, s2]; done)))
    | (apply AWP.rE; (focus (simp [go_sem, s1, s2]; exact ⟨rfl, rfl⟩)); try dsimp only [thn, inBlk])
    | fail)
  simp [bodyQ, thn, inBlk, resA, resV, go_sem]

theorem hasprefix_calls {h : AHeap} {v w : Value} {s p : List UInt8} (hx : Bytes h v s) (hy : Bytes h w p) :
    ACalls Tryd.prog 35 #[v, w] h fun r h' => r = .bool (decide (p.length ≤ s.length) && (s.take p.length == p)) ∧ h' = h := by
  refine ACalls.of_awp (args := [v, w]) (n := 18) Tryd.func35 rfl rfl (by show 2 ≤ 18; omega) ?_
  by_cases hl : p.length ≤ s.length
  rotate_left
  · obtain ⟨va, vc, rfl⟩ := hx.val
    obtain ⟨wa, wc, rfl⟩ := hy.val
    have hl' : ¬ (p.length : Int) ≤ s.length := by omega
    (repeat' first
      | refine AWP.seq ?_
      | refine AWP.block ?_
      | (refine AWP.skip ?_; try dsimp only [thn, inBlk])
      | (refine AWP.exit ?_; try simp only [thn, inBlk, if_true, reduceIte, Nat.reduceEqDiff])
      | (refine AWP.ret ?_; try dsimp only [thn, inBlk])
      | (refine AWP.condT ?_ ?_; (focus (simp [go_sem, hl']; done)))
      | (refine AWP.condF ?_ ?_; (focus (simp [go_sem, hl']; done)))
      | (apply AWP.rE; (focus (simp [go_sem, hl']; exact ⟨rfl, rfl⟩)); try dsimp only [thn, inBlk])
      | fail)
    simp [bodyQ, thn, inBlk, resA, resV, go_sem, hl]
  obtain ⟨s1, s2⟩ := hx.piece (P := Tryd.prog) (t := 22) (e := 5) Tryd.underlying22 tsz5 (lo := 0) (hi := p.length) (by omega) hl (l := none) (u := some (.int .i64 (p.length : Nat))) (.inl ⟨rfl, rfl⟩) (.inr ⟨.i64, rfl⟩)
  rw [List.drop_zero] at s2
  obtain ⟨va, vc, rfl⟩ := hx.val
  obtain ⟨wa, wc, rfl⟩ := hy.val
  have hl' : (p.length : Int) ≤ s.length := by omega
  (repeat' first
    | refine AWP.seq ?_
    | refine AWP.block ?_
    | (refine AWP.skip ?_; try dsimp only [thn, inBlk])
    | (refine AWP.exit ?_; try simp only [thn, inBlk, if_true, reduceIte, Nat.reduceEqDiff])
    | (refine AWP.ret ?_; try dsimp only [thn, inBlk])
    | (refine AWP.condT ?_ ?_; (focus (simp [go_sem, hl', s1]; done)))
    | (refine AWP.condF ?_ ?_; (focus (simp [go_sem, hl', s1]; done)))
    | (apply AWP.rE; (focus (simp [go_sem, hl', s1]; exact ⟨rfl, rfl⟩)); try dsimp only [thn, inBlk])
    | fail)
  refine AWP.callE (by simp [go_sem, hl', s1]; exact ⟨rfl, rfl, rfl, rfl, rfl⟩) (by kernel_rfl) ?_
  refine (equal_calls s2 hy).mono ?_
  rintro r h' ⟨rfl, rfl⟩
  refine awpL_restE (by simp [go_sem]; exact ⟨rfl, rfl⟩) ?_; try dsimp only [thn, inBlk]
  (repeat' first
    | refine AWP.seq ?_
    | refine AWP.block ?_
    | (refine AWP.skip ?_; try dsimp only [thn, inBlk])
    | (refine AWP.exit ?_; try simp only [thn, inBlk, if_true, reduceIte, Nat.reduceEqDiff])
    | (refine AWP.ret ?_; try dsimp only [thn, inBlk])
    | (refine AWP.condT ?_ ?_; (focus (simp [go_sem]; done)))
    | (refine AWP.condF ?_ ?_; (focus (simp [go_sem]; done)))
    | (apply AWP.rE; (focus (simp [go_sem]; exact ⟨rfl, rfl⟩)); try dsimp only [thn, inBlk])
    | fail)
  simp [bodyQ, thn, inBlk, resA, resV, go_sem, hl]

theorem cutprefix_calls {h : AHeap} {v w : Value} {s p : List UInt8} (hx : Bytes h v s) (hy : Bytes h w p) :
    ACalls Tryd.prog 27 #[v, w] h fun r h' => h' = h ∧ ((∃ t, s = p ++ t ∧ ∃ a cap, r = .tuple #[.slice a t.length cap, .bool true] ∧ ∀ hh, Bytes hh v s → Bytes hh (.slice a t.length cap) t) ∨ ((∀ t, s ≠ p ++ t) ∧ r = .tuple #[v, .bool false])) := by
  refine ACalls.of_awp (args := [v, w]) (n := 15) Tryd.func27 rfl rfl (by show 2 ≤ 15; omega) ?_
  (repeat' first
    | refine AWP.seq ?_
    | refine AWP.block ?_
    | (refine AWP.skip ?_; try dsimp only [thn, inBlk])
    | (refine AWP.exit ?_; try simp only [thn, inBlk, if_true, reduceIte, Nat.reduceEqDiff])
    | (refine AWP.ret ?_; try dsimp only [thn, inBlk])
    | (refine AWP.condT ?_ ?_; (focus (simp [go_sem]; done)))
    | (refine AWP.condF ?_ ?_; (focus (simp [go_sem]; done)))
    | (apply AWP.rE; (focus (simp [go_sem]; exact ⟨rfl, rfl⟩)); try dsimp only [thn, inBlk])
    | fail)
  refine AWP.callE (by simp [go_sem]; exact ⟨rfl, rfl, rfl, rfl, rfl⟩) (by kernel_rfl) ?_
  refine (hasprefix_calls hx hy).mono ?_
  rintro r h' ⟨rfl, rfl⟩
  by_cases hp : ∃ t, s = p ++ t
  · obtain ⟨t, rfl⟩ := hp
    have e : (decide (p.length ≤ (p ++ t).length) && ((p ++ t).take p.length == p)) = true := by simp
    rw [e]
    refine awpL_restE (by simp [go_sem]; exact ⟨rfl, rfl⟩) ?_; try dsimp only [thn, inBlk]
    have hpc : ∀ hh, Bytes hh v (p ++ t) → _ := fun hh kk => kk.piece (P := Tryd.prog) (t := 22) (e := 5) Tryd.underlying22 tsz5 (lo := p.length) (hi := (p ++ t).length) (by simp) (Nat.le_refl _) (l := some (.int .i64 (p.length : Nat))) (u := none) (.inr ⟨.i64, rfl⟩) (.inl ⟨rfl, rfl⟩)
    have hd : ((p ++ t).take (p ++ t).length).drop p.length = t := by rw [List.take_length, List.drop_left]; done
    obtain ⟨s1, s2⟩ := hpc h' hx
    rw [hd] at s2
    obtain ⟨ya, yc, hy2⟩ := s2.val
    rw [hy2] at s1 s2
    have hpc2 : ∀ hh, Bytes hh v (p ++ t) → Bytes hh (.slice ya t.length yc) t := fun hh kk => by
      have := (hpc hh kk).2
      rw [hd, hy2] at this; exact this
    obtain ⟨wa, wc, rfl⟩ := hy.val
    (repeat' first
      | refine AWP.seq ?_
      | refine AWP.block ?_
      | (refine AWP.skip ?_; try dsimp only [thn, inBlk])
      | (refine AWP.exit ?_; try simp only [thn, inBlk, if_true, reduceIte, Nat.reduceEqDiff])
      | (refine AWP.ret ?_; try dsimp only [thn, inBlk])
      | (refine AWP.condT ?_ ?_; (focus (simp [go_sem, s1]; done)))
      | (refine AWP.condF ?_ ?_; (focus (simp [go_sem, s1]; done)))
      | (apply AWP.rE; (focus (simp [go_sem, s1]; exact ⟨rfl, rfl⟩)); try dsimp only [thn, inBlk])
      | fail)
    simp [bodyQ, thn, inBlk, resA, resV, go_sem]
    exact ⟨ya, yc, ⟨rfl, rfl⟩, hpc2⟩
  · have hn : ∀ t, s ≠ p ++ t := fun t e => hp ⟨t, e⟩
    have e : (decide (p.length ≤ s.length) && (s.take p.length == p)) = false := by
      rw [Bool.and_eq_false_iff]
      by_cases hl : p.length ≤ s.length
      · right
        rw [beq_eq_false_iff_ne]
        intro e
        exact hn (s.drop p.length) (by conv => lhs; rw [← List.take_append_drop p.length s, e])
      · left; simpa using hl
    rw [e]
    refine awpL_restE (by simp [go_sem]; exact ⟨rfl, rfl⟩) ?_; try dsimp only [thn, inBlk]
    (repeat' first
      | refine AWP.seq ?_
      | refine AWP.block ?_
      | (refine AWP.skip ?_; try dsimp only [thn, inBlk])
      | (refine AWP.exit ?_; try simp only [thn, inBlk, if_true, reduceIte, Nat.reduceEqDiff])
      | (refine AWP.ret ?_; try dsimp only [thn, inBlk])
      | (refine AWP.condT ?_ ?_; (focus (simp [go_sem]; done)))
      | (refine AWP.condF ?_ ?_; (focus (simp [go_sem]; done)))
      | (apply AWP.rE; (focus (simp [go_sem]; exact ⟨rfl, rfl⟩)); try dsimp only [thn, inBlk])
      | fail)
    simp [bodyQ, thn, inBlk, resA, resV, go_sem]
    exact hn

theorem clone_calls {O : Old} {h : AHeap} {R : List Chunk} {v : Value} {bs : List UInt8} (k : Own O h R) (hx : ∀ h, Own O h R → Bytes h v bs) (hm : bs.length ≤ 140737488355328) :
    ACalls Tryd.prog 28 #[v] h fun r h' => ∃ a cap, r = .slice a bs.length cap ∧ Own O h' (ob 5 (.slice a bs.length cap) bs :: R) := by
  refine ACalls.of_awp (args := [v]) (n := 8) Tryd.func28 rfl rfl (by show 1 ≤ 8; omega) ?_
  rcases hx h k with ⟨rfl, rfl⟩ | ⟨i, off, cap, c, e, sz, ti, ro, rfl, _⟩
  · (repeat' first
      | refine AWP.seq ?_
      | refine AWP.block ?_
      | (refine AWP.skip ?_; try dsimp only [thn, inBlk])
      | (refine AWP.exit ?_; try simp only [thn, inBlk, if_true, reduceIte, Nat.reduceEqDiff])
      | (refine AWP.ret ?_; try dsimp only [thn, inBlk])
      | (refine AWP.condT ?_ ?_; (focus (simp [go_sem]; done)))
      | (refine AWP.condF ?_ ?_; (focus (simp [go_sem]; done)))
      | (apply AWP.rE; (focus (simp [go_sem]; exact ⟨rfl, rfl⟩)); try dsimp only [thn, inBlk])
      | fail)
    simp [bodyQ, thn, inBlk, resA, resV, go_sem]
    exact ⟨_, _, ⟨rfl, rfl⟩, k.nil 5 1⟩
  · obtain ⟨a2, c2, h2, e1, k2⟩ := k.copy (P := Tryd.prog) (t := 22) (xt := 22) (i := h.next) Tryd.underlying22 tsz5 tby5 tz5 nI22 hx hm rfl
    (repeat' first
      | refine AWP.seq ?_
      | refine AWP.block ?_
      | (refine AWP.skip ?_; try dsimp only [thn, inBlk])
      | (refine AWP.exit ?_; try simp only [thn, inBlk, if_true, reduceIte, Nat.reduceEqDiff])
      | (refine AWP.ret ?_; try dsimp only [thn, inBlk])
      | (refine AWP.condT ?_ ?_; (focus (simp [go_sem, e1]; done)))
      | (refine AWP.condF ?_ ?_; (focus (simp [go_sem, e1]; done)))
      | (apply AWP.rE; (focus (simp [go_sem, e1]; exact ⟨rfl, rfl⟩)); try dsimp only [thn, inBlk])
      | fail)
    simp [bodyQ, thn, inBlk, resA, resV, go_sem]
    exact ⟨_, _, ⟨rfl, rfl⟩, k2⟩

theorem auth_calls {O : Old} {h : AHeap} {R : List Chunk} {v w : Value} {hd bs : List UInt8} (k : Own O h (ob 5 v hd :: R)) (hx : ∀ h, Own O h R → Bytes h w bs) (h1 : hd.length ≤ 100) (hm : bs.length ≤ 1000000) :
    ACalls Tryd.prog 29 #[v, w] h fun r h' => ∃ a cap, r = tel 3 0 37 (.slice a (hd.length + bs.length) cap) ∧ Own O h' (ob 5 (.slice a (hd ++ bs).length cap) (hd ++ bs) :: R) := by
  refine ACalls.of_awp (args := [v, w]) (n := 9) Tryd.func29 rfl rfl (by show 2 ≤ 9; omega) ?_
  have k1 := (k.push (trow 0 0 0 (.slice none 0 0)))
  obtain ⟨a2, cap2, h2, e1, k2⟩ := Own.appB (P := Tryd.prog) (t := 22) (xt := 22) Tryd.underlying22 tsz5 tby5 tz5 nI22 k1.b1 (hx _ k1.tail.tail).src (by omega)
  have c2 := k2.b1.obj
  have k3 := k2.b1.set (trow 3 0 37 (.slice a2 (hd.length + bs.length) cap2))
  have c3 := k3.obj
  (repeat' first
    | refine AWP.seq ?_
    | refine AWP.block ?_
    | (refine AWP.skip ?_; try dsimp only [thn, inBlk])
    | (refine AWP.exit ?_; try simp only [thn, inBlk, if_true, reduceIte, Nat.reduceEqDiff])
    | (refine AWP.ret ?_; try dsimp only [thn, inBlk])
    | (refine AWP.condT ?_ ?_; (focus (simp [go_sem, e1, c2]; done)))
    | (refine AWP.condF ?_ ?_; (focus (simp [go_sem, e1, c2]; done)))
    | (apply AWP.rE; (focus (simp [go_sem, e1, c2]; exact ⟨rfl, rfl⟩)); try dsimp only [thn, inBlk])
    | fail)
  simp [bodyQ, thn, inBlk, resA, resV, go_sem, c3]
  exact ⟨a2, cap2, ⟨rfl, rfl⟩, k3.tail⟩

theorem send_calls {O : Old} {h : AHeap} {R : List Chunk} (k : Own O h R) :
    ACalls Tryd.prog 19 #[] h fun r h' => ∃ a cap, r = tel 3 0 37 (.slice a 3 cap) ∧ Own O h' (ob 5 (.slice a 3 cap) [1, 2, 2] :: R) := by
  refine ACalls.of_awp (args := []) (n := 3) Tryd.func19 rfl rfl (by show 0 ≤ 3; omega) ?_
  have k1 := k.push (trow 0 0 0 (.slice none 0 0))
  have k2 : Own O _ (ob 5 (.slice (some ⟨h.next + 1, 0, none⟩) 3 3) [1, 2, 2] :: _) := k1.fresh (e := 5) (bs := [1, 2, 2])
  (repeat' first
    | refine AWP.seq ?_
    | refine AWP.block ?_
    | (refine AWP.skip ?_; try dsimp only [thn, inBlk])
    | (refine AWP.exit ?_; try simp only [thn, inBlk, if_true, reduceIte, Nat.reduceEqDiff])
    | (refine AWP.ret ?_; try dsimp only [thn, inBlk])
    | (refine AWP.condT ?_ ?_; (focus (simp [go_sem]; done)))
    | (refine AWP.condF ?_ ?_; (focus (simp [go_sem]; done)))
    | (apply AWP.rE; (focus (simp [go_sem]; exact ⟨rfl, rfl⟩)); try dsimp only [thn, inBlk])
    | fail)
  refine AWP.callE (by simp [go_sem]; exact ⟨rfl, rfl, rfl, rfl, rfl⟩) (by kernel_rfl) ?_
  refine (auth_calls k2 (fun hh kk => Bytes.nil hh) (by simp) (by simp)).mono ?_
  rintro r h' ⟨a, cap, rfl, k3⟩
  have c3 := k3.b1.obj
  have k4 := k3.b1.set (trow 3 0 37 (.slice a 3 cap))
  have c4 := k4.obj
  refine awpL_restE (by simp [go_sem, c3]; exact ⟨rfl, rfl⟩) ?_; try dsimp only [thn, inBlk]
  (repeat' first
    | refine AWP.seq ?_
    | refine AWP.block ?_
    | (refine AWP.skip ?_; try dsimp only [thn, inBlk])
    | (refine AWP.exit ?_; try simp only [thn, inBlk, if_true, reduceIte, Nat.reduceEqDiff])
    | (refine AWP.ret ?_; try dsimp only [thn, inBlk])
    | (refine AWP.condT ?_ ?_; (focus (simp [go_sem, c3]; done)))
    | (refine AWP.condF ?_ ?_; (focus (simp [go_sem, c3]; done)))
    | (apply AWP.rE; (focus (simp [go_sem, c3]; exact ⟨rfl, rfl⟩)); try dsimp only [thn, inBlk])
    | fail)
  simp [bodyQ, thn, inBlk, resA, resV, go_sem, c4]
  exact ⟨a, cap, ⟨rfl, rfl⟩, k4.tail⟩
theorem is_calls {O : Old} {h : AHeap} {R : List Chunk} {v : Value} {bs : List UInt8} (k : Own O h R) (hx : ∀ h, Own O h R → Bytes h v bs) (hm : bs.length ≤ 1000000) :
    ACalls Tryd.prog 20 #[v] h fun r h' => ∃ a cap, r = tel 3 0 37 (.slice a (4 + bs.length) cap) ∧ Own O h' (ob 5 (.slice a ([0, 2, 2, 0] ++ bs).length cap) ([0, 2, 2, 0] ++ bs) :: R) := by
  refine ACalls.of_awp (args := [v]) (n := 6) Tryd.func20 rfl rfl (by show 1 ≤ 6; omega) ?_
  have k1 := k.push (trow 0 0 0 (.slice none 0 0))
  have k2 : Own O _ (ob 5 (.slice (some ⟨h.next + 1, 0, none⟩) 4 4) [0, 2, 2, 0] :: _) := k1.fresh (e := 5) (bs := [0, 2, 2, 0])
  (repeat' first
    | refine AWP.seq ?_
    | refine AWP.block ?_
    | (refine AWP.skip ?_; try dsimp only [thn, inBlk])
    | (refine AWP.exit ?_; try simp only [thn, inBlk, if_true, reduceIte, Nat.reduceEqDiff])
    | (refine AWP.ret ?_; try dsimp only [thn, inBlk])
    | (refine AWP.condT ?_ ?_; (focus (simp [go_sem]; done)))
    | (refine AWP.condF ?_ ?_; (focus (simp [go_sem]; done)))
    | (apply AWP.rE; (focus (simp [go_sem]; exact ⟨rfl, rfl⟩)); try dsimp only [thn, inBlk])
    | fail)
  refine AWP.callE (by simp [go_sem]; exact ⟨rfl, rfl, rfl, rfl, rfl⟩) (by kernel_rfl) ?_
  refine (auth_calls k2 (fun hh kk => hx hh kk.tail) (by simp) hm).mono ?_
  rintro r h' ⟨a, cap, rfl, k3⟩
  have c3 := k3.b1.obj
  have k4 := k3.b1.set (trow 3 0 37 (.slice a (4 + bs.length) cap))
  have c4 := k4.obj
  rw [show [(0 : UInt8), 2, 2, 0].length = 4 from rfl]
  refine awpL_restE (by simp [go_sem, c3]; exact ⟨rfl, rfl⟩) ?_; try dsimp only [thn, inBlk]
  (repeat' first
    | refine AWP.seq ?_
    | refine AWP.block ?_
    | (refine AWP.skip ?_; try dsimp only [thn, inBlk])
    | (refine AWP.exit ?_; try simp only [thn, inBlk, if_true, reduceIte, Nat.reduceEqDiff])
    | (refine AWP.ret ?_; try dsimp only [thn, inBlk])
    | (refine AWP.condT ?_ ?_; (focus (simp [go_sem, c3]; done)))
    | (refine AWP.condF ?_ ?_; (focus (simp [go_sem, c3]; done)))
    | (apply AWP.rE; (focus (simp [go_sem, c3]; exact ⟨rfl, rfl⟩)); try dsimp only [thn, inBlk])
    | fail)
  simp [bodyQ, thn, inBlk, resA, resV, go_sem, c4]
  exact ⟨a, cap, ⟨rfl, rfl⟩, k4.tail⟩
theorem reply_calls {O : Old} {h : AHeap} {R : List Chunk} {v : Value} {bs : List UInt8} {b : Bool} (k : Own O h R) (hx : ∀ h, Own O h R → Bytes h v bs) (hm : bs.length ≤ 1000000) :
    ACalls Tryd.prog 21 #[.bool b, v] h fun r h' => ∃ a cap, r = tel 3 0 37 (.slice a (4 + bs.length) cap) ∧ Own O h' (ob 5 (.slice a ([2, 2, 2, if b then 2 else 1] ++ bs).length cap) ([2, 2, 2, if b then 2 else 1] ++ bs) :: R) := by
  refine ACalls.of_awp (args := [.bool b, v]) (n := 11) Tryd.func21 rfl rfl (by show 2 ≤ 11; omega) ?_
  have k1 := k.push (trow 0 0 0 (.slice none 0 0))
  cases b
  · have k2 : Own O _ (ob 5 (.slice (some ⟨h.next + 1, 0, none⟩) 4 4) [2, 2, 2, 1] :: _) := k1.fresh (e := 5) (bs := [2, 2, 2, 1])
    (repeat' first
      | refine AWP.seq ?_
      | refine AWP.block ?_
      | (refine AWP.skip ?_; try dsimp only [thn, inBlk])
      | (refine AWP.exit ?_; try simp only [thn, inBlk, if_true, reduceIte, Nat.reduceEqDiff])
      | (refine AWP.ret ?_; try dsimp only [thn, inBlk])
      | (refine AWP.condT ?_ ?_; (focus (simp [go_sem]; done)))
      | (refine AWP.condF ?_ ?_; (focus (simp [go_sem]; done)))
      | (apply AWP.rE; (focus (simp [go_sem]; exact ⟨rfl, rfl⟩)); try dsimp only [thn, inBlk])
      | fail)
    refine AWP.callE (by simp [go_sem]; exact ⟨rfl, rfl, rfl, rfl, rfl⟩) (by kernel_rfl) ?_
    refine (auth_calls k2 (fun hh kk => hx hh kk.tail) (by simp) hm).mono ?_
    rintro r h' ⟨a, cap, rfl, k3⟩
    have c3 := k3.b1.obj
    have k4 := k3.b1.set (trow 3 0 37 (.slice a (4 + bs.length) cap))
    have c4 := k4.obj
    rw [show [(2 : UInt8), 2, 2, 1].length = 4 from rfl]
    refine awpL_restE (by simp [go_sem, c3]; exact ⟨rfl, rfl⟩) ?_; try dsimp only [thn, inBlk]
    (repeat' first
      | refine AWP.seq ?_
      | refine AWP.block ?_
      | (refine AWP.skip ?_; try dsimp only [thn, inBlk])
      | (refine AWP.exit ?_; try simp only [thn, inBlk, if_true, reduceIte, Nat.reduceEqDiff])
      | (refine AWP.ret ?_; try dsimp only [thn, inBlk])
      | (refine AWP.condT ?_ ?_; (focus (simp [go_sem, c3]; done)))
      | (refine AWP.condF ?_ ?_; (focus (simp [go_sem, c3]; done)))
      | (apply AWP.rE; (focus (simp [go_sem, c3]; exact ⟨rfl, rfl⟩)); try dsimp only [thn, inBlk])
      | fail)
    simp [bodyQ, thn, inBlk, resA, resV, go_sem, c4]
    exact ⟨a, cap, ⟨rfl, rfl⟩, k4.tail⟩
  · have k2 : Own O _ (ob 5 (.slice (some ⟨h.next + 1, 0, none⟩) 4 4) [2, 2, 2, 2] :: _) := k1.fresh (e := 5) (bs := [2, 2, 2, 2])
    (repeat' first
      | refine AWP.seq ?_
      | refine AWP.block ?_
      | (refine AWP.skip ?_; try dsimp only [thn, inBlk])
      | (refine AWP.exit ?_; try simp only [thn, inBlk, if_true, reduceIte, Nat.reduceEqDiff])
      | (refine AWP.ret ?_; try dsimp only [thn, inBlk])
      | (refine AWP.condT ?_ ?_; (focus (simp [go_sem]; done)))
      | (refine AWP.condF ?_ ?_; (focus (simp [go_sem]; done)))
      | (apply AWP.rE; (focus (simp [go_sem]; exact ⟨rfl, rfl⟩)); try dsimp only [thn, inBlk])
      | fail)
    refine AWP.callE (by simp [go_sem]; exact ⟨rfl, rfl, rfl, rfl, rfl⟩) (by kernel_rfl) ?_
    refine (auth_calls k2 (fun hh kk => hx hh kk.tail) (by simp) hm).mono ?_
    rintro r h' ⟨a, cap, rfl, k3⟩
    have c3 := k3.b1.obj
    have k4 := k3.b1.set (trow 3 0 37 (.slice a (4 + bs.length) cap))
    have c4 := k4.obj
    rw [show [(2 : UInt8), 2, 2, 2].length = 4 from rfl]
    refine awpL_restE (by simp [go_sem, c3]; exact ⟨rfl, rfl⟩) ?_; try dsimp only [thn, inBlk]
    (repeat' first
      | refine AWP.seq ?_
      | refine AWP.block ?_
      | (refine AWP.skip ?_; try dsimp only [thn, inBlk])
      | (refine AWP.exit ?_; try simp only [thn, inBlk, if_true, reduceIte, Nat.reduceEqDiff])
      | (refine AWP.ret ?_; try dsimp only [thn, inBlk])
      | (refine AWP.condT ?_ ?_; (focus (simp [go_sem, c3]; done)))
      | (refine AWP.condF ?_ ?_; (focus (simp [go_sem, c3]; done)))
      | (apply AWP.rE; (focus (simp [go_sem, c3]; exact ⟨rfl, rfl⟩)); try dsimp only [thn, inBlk])
      | fail)
    simp [bodyQ, thn, inBlk, resA, resV, go_sem, c4]
    exact ⟨a, cap, ⟨rfl, rfl⟩, k4.tail⟩
end L22
