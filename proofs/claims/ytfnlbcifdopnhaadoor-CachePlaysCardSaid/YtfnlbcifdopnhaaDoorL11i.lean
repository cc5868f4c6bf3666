import Derived.Test.YtfnlbcifdopnhaaDoorL11h
open Go Ab Go.Proofs
namespace L11
set_option autoImplicit false
set_option linter.unusedSimpArgs false
set_option linter.unusedVariables false
section
variable {O : Old} {h : AHeap} {R : List Chunk}
theorem clone_calls {v : Value} {bs : List UInt8} (k : Own O h R) (hx : ∀ h, Own O h R → Bytes h v bs) (hm : bs.length ≤ 140737488355328) :
    ACalls Tryd.prog 35 #[v] h fun r h' => ∃ a cap, r = .slice a bs.length cap ∧ Own O h' (ob 5 (.slice a bs.length cap) bs :: R) := by
  refine ACalls.of_awp (args := [v]) (n := 8) Tryd.func35 rfl rfl (by show 1 ≤ 8; omega) ?_
  rcases hx h k with ⟨rfl, rfl⟩ | ⟨i, off, cap, c, e, sz, ti, ro, rfl, _⟩
  · (repeat' first
      | refine AWP.seq ?_
      | refine AWP.block ?_
      | (refine AWP.skip ?_; try dsimp only [thn, inBlk])
      | (refine AWP.exit ?_; try simp only [thn, inBlk, if_true, reduceIte, Nat.reduceEqDiff])
      | (refine AWP.ret ?_; try dsimp only [thn, inBlk])
      | (refine AWP.condT ?_ ?_; (focus (simp [go_sem]; done)))
      | (refine AWP.condF ?_ ?_; (focus (simp [go_sem]; done)))
      | (apply AWP.rE; (focus (simp [go_sem]; exact ⟨rfl, rfl⟩)); try dsimp only [thn, inBlk])
      | fail)
    simp [bodyQ, thn, inBlk, resA, resV, go_sem]
    exact ⟨_, _, ⟨rfl, rfl⟩, k.nil 5 1⟩
  · obtain ⟨a2, c2, h2, e1, k2⟩ := k.copy (P := Tryd.prog) (t := 27) (xt := 27) (i := h.next) Tryd.underlying27 tsz5 tby5 tz5 nI27 hx hm rfl
    (repeat' first
      | refine AWP.seq ?_
      | refine AWP.block ?_
      | (refine AWP.skip ?_; try dsimp only [thn, inBlk])
      | (refine AWP.exit ?_; try simp only [thn, inBlk, if_true, reduceIte, Nat.reduceEqDiff])
      | (refine AWP.ret ?_; try dsimp only [thn, inBlk])
      | (refine AWP.condT ?_ ?_; (focus (simp [go_sem, e1]; done)))
      | (refine AWP.condF ?_ ?_; (focus (simp [go_sem, e1]; done)))
      | (apply AWP.rE; (focus (simp [go_sem, e1]; exact ⟨rfl, rfl⟩)); try dsimp only [thn, inBlk])
      | fail)
    simp [bodyQ, thn, inBlk, resA, resV, go_sem]
    exact ⟨_, _, ⟨rfl, rfl⟩, k2⟩
abbrev tkV (c : Cr) (p : Pl) : Value := .slice p.1 c.tk.length p.2
abbrev tkb (c : Cr) (p : Pl) : Chunk := ob 5 (tkV c p) c.tk
set_option maxHeartbeats 4000000 in
theorem copied_calls {c : Cr} {p : Pl} (k : Own O h R) (hx : ∀ h, Own O h R → Bytes h (tkV c p) c.tk) (hm : c.tk.length ≤ 1000000) :
    ACalls Tryd.prog 21 #[crV (c, p)] h fun r h' => ∃ p', r = crV (c, p') ∧ Own O h' (tkb c p' :: R) := by
  refine ACalls.of_awp (args := [crV (c, p)]) (n := 8) Tryd.func21 rfl rfl (by show 1 ≤ 8; omega) ?_
  have k1 : Own O _ (cell (h.next + 1) (.row (cr zC zP) 34 23 true false) :: cell h.next (.row (cr c p) 34 23 true false) :: R) := (k.push (.row (cr c p) 34 23 true false)).push (.row (cr zC zP) 34 23 true false)
  have c1 := k1.b1.obj
  (repeat' first
    | refine AWP.seq ?_
    | refine AWP.block ?_
    | (refine AWP.skip ?_; try dsimp only [thn, inBlk])
    | (refine AWP.exit ?_; try simp only [thn, inBlk, if_true, reduceIte, Nat.reduceEqDiff])
    | (refine AWP.ret ?_; try dsimp only [thn, inBlk])
    | (refine AWP.condT ?_ ?_; (focus (simp [go_sem, ↓allocC]; done)))
    | (refine AWP.condF ?_ ?_; (focus (simp [go_sem, ↓allocC]; done)))
    | (apply AWP.rE; (focus (simp [go_sem, ↓allocC]; exact ⟨rfl, rfl⟩)); try dsimp only [thn, inBlk])
    | fail)
  refine AWP.callE (by simp [go_sem, c1]; exact ⟨rfl, rfl, rfl, rfl, rfl⟩) (by kernel_rfl) ?_
  refine (clone_calls k1 (fun hh kk => hx hh kk.tail.tail) (by omega)).mono ?_
  rintro r h2 ⟨a, cap, rfl, k2⟩
  have c2 := k2.b2.obj
  have k3 := k2.b2.set (.row (cr c (a, cap)) 34 23 true false)
  have c3 := k3.obj
  have c4 := k3.b2.obj
  have k5 := k3.b2.set (.row (cr c (a, cap)) 34 23 true false)
  have c5 := k5.obj
  refine awpL_restE (by simp [go_sem, c2]; exact ⟨rfl, rfl⟩) ?_; try dsimp only [thn, inBlk]
  (repeat' first
    | refine AWP.seq ?_
    | refine AWP.block ?_
    | (refine AWP.skip ?_; try dsimp only [thn, inBlk])
    | (refine AWP.exit ?_; try simp only [thn, inBlk, if_true, reduceIte, Nat.reduceEqDiff])
    | (refine AWP.ret ?_; try dsimp only [thn, inBlk])
    | (refine AWP.condT ?_ ?_; (focus (simp [go_sem, c3, c4]; done)))
    | (refine AWP.condF ?_ ?_; (focus (simp [go_sem, c3, c4]; done)))
    | (apply AWP.rE; (focus (simp [go_sem, c3, c4]; exact ⟨rfl, rfl⟩)); try dsimp only [thn, inBlk])
    | fail)
  simp [bodyQ, thn, inBlk, resA, resV, go_sem, c5]
  exact ⟨a, cap, rfl, k5.b2.d2.d1⟩
theorem old_calls {t : Nat} {now : Int} {n : List UInt8} {c : Cr} {p : Pl} (k : Own O h (cell t (.row [.int .i64 now] 2 1 true false) :: R)) :
    ACalls Tryd.prog 20 #[tx n, crV (c, p), ptr t] h fun v h' => v = .bool (decide (c.g.en < now)) ∧ Own O h' (cell t (.row [.int .i64 now] 2 1 true false) :: R) := by
  refine ACalls.of_awp (args := [tx n, crV (c, p), ptr t]) (n := 11) Tryd.func20 rfl rfl (by show 3 ≤ 11; omega) ?_
  have k1 := k.push (.row (cr c p) 34 23 true false)
  have c1 := k1.b1.obj
  (repeat' first
    | refine AWP.seq ?_
    | refine AWP.block ?_
    | (refine AWP.skip ?_; try dsimp only [thn, inBlk])
    | (refine AWP.exit ?_; try simp only [thn, inBlk, if_true, reduceIte, Nat.reduceEqDiff])
    | (refine AWP.ret ?_; try dsimp only [thn, inBlk])
    | (refine AWP.condT ?_ ?_; (focus (simp [go_sem, c1]; done)))
    | (refine AWP.condF ?_ ?_; (focus (simp [go_sem, c1]; done)))
    | (apply AWP.rE; (focus (simp [go_sem, c1]; exact ⟨rfl, rfl⟩)); try dsimp only [thn, inBlk])
    | fail)
  simp [bodyQ, thn, inBlk, resA, resV, go_sem]
  exact k1.tail
abbrev KV := List UInt8 × (Cr × Pl)
theorem filt_del {zs0 : List (KV × Nat)} {now : Int} {seen : Array Nat} {z : KV × Nat} (hb : (zs0.map (·.2)).Nodup) (hk : (zs0.map (·.1.1)).Nodup) (hz : z ∈ zs0) (hd : z.1.2.1.g.en < now) (f : KV × Nat → Bool) (hf : ∀ y, f y = !decide (y.1.1 = z.1.1)) :
    (zs0.filter fun y => !(decide (y.2 ∈ seen) && decide (y.1.2.1.g.en < now))).filter f = zs0.filter fun y => !(decide (y.2 ∈ seen.push z.2) && decide (y.1.2.1.g.en < now)) := by
  rw [List.filter_filter]
  apply List.filter_congr
  intro y hy
  rw [hf]
  by_cases e : y.1.1 = z.1.1
  · have : y = z := inj_of_nodup (f := fun y => y.1.1) hk hy hz e
    subst this
    simp [hd]
  · have : y.2 ≠ z.2 := fun e2 => e (by rw [inj_of_nodup (f := fun y => y.2) hb hy hz e2])
    simp [e, this]
theorem filt_keep {zs0 : List (KV × Nat)} {now : Int} {seen : Array Nat} {z : KV × Nat} (hb : (zs0.map (·.2)).Nodup) (hz : z ∈ zs0) (hd : ¬ z.1.2.1.g.en < now) :
    (zs0.filter fun y => !(decide (y.2 ∈ seen) && decide (y.1.2.1.g.en < now))) = zs0.filter fun y => !(decide (y.2 ∈ seen.push z.2) && decide (y.1.2.1.g.en < now)) := by
  apply List.filter_congr
  intro y hy
  by_cases e : y.2 = z.2
  · have : y = z := inj_of_nodup (f := fun y => y.2) hb hy hz e
    subst this
    simp [hd]
  · simp [e]
theorem less {zs0 : List (KV × Nat)} {seen : Array Nat} {z : KV × Nat} (hz : z ∈ zs0) (hn : z.2 ∉ seen) :
    (zs0.filter fun y => !decide (y.2 ∈ seen.push z.2)).length < (zs0.filter fun y => !decide (y.2 ∈ seen)).length := by
  have : (zs0.filter fun y => !decide (y.2 ∈ seen.push z.2)) = (zs0.filter fun y => !decide (y.2 ∈ seen)).filter fun y => !decide (y.2 = z.2) := by
    rw [List.filter_filter]
    apply List.filter_congr
    intro y hy
    simp; rw [Bool.and_comm]
  rw [this]
  rw [List.length_filter_lt_length_iff_exists]
  exact ⟨z, by simp [hz, hn], by simp⟩
theorem crFlat (x : Cr × Pl) : (crV x).known = true := rfl
set_option maxHeartbeats 4000000 in
theorem deleteFunc_calls {m t : Nat} {l : List KV} {now : Int} (k : Own O h (mpc tx crV m l :: cell t (.row [.int .i64 now] 2 1 true false) :: R)) (hl : ∀ a ∈ l, a.1.length ≤ 1000000) (hnd : (l.map (·.1)).Nodup) :
    ACalls Tryd.prog 19 #[.map (some m), .func (.func 20) #[] #[ptr t]] h fun v h' => Own O h' (mpc tx crV m (l.filter fun a => !decide (a.2.1.g.en < now)) :: cell t (.row [.int .i64 now] 2 1 true false) :: R) := by
  obtain ⟨zs0, clock, hz1, hz2, hz3, k1⟩ := mpc_mpz.1 k
  have hok : ∀ z ∈ zs0, z.1.1.length ≤ 1000000 := fun z hz => hl _ (by rw [← hz1]; exact List.mem_map_of_mem hz)
  have hkn : (zs0.map (·.1.1)).Nodup := by rw [← hz1, List.map_map] at hnd; exact hnd
  refine ACalls.of_awp (args := [.map (some m), .func (.func 20) #[] #[ptr t]]) (n := 19) Tryd.func19 rfl rfl (by show 2 ≤ 19; omega) ?_
  have e1 := k1.rangeW (P := Tryd.prog) (t := 53) Tryd.underlying53
  have k2 := k1.push (.other (.mapIter (some m) clock #[] clock))
  (repeat' first
    | refine AWP.seq ?_
    | refine AWP.block ?_
    | (refine AWP.skip ?_; try dsimp only [thn, inBlk])
    | (refine AWP.exit ?_; try simp only [thn, inBlk, if_true, reduceIte, Nat.reduceEqDiff])
    | (refine AWP.ret ?_; try dsimp only [thn, inBlk])
    | (refine AWP.condT ?_ ?_; (focus (simp [go_sem, e1]; done)))
    | (refine AWP.condF ?_ ?_; (focus (simp [go_sem, e1]; done)))
    | (apply AWP.rE; (focus (simp [go_sem, e1]; exact ⟨rfl, rfl⟩)); try dsimp only [thn, inBlk])
    | fail)
  refine AWP.loopR [0, 1, 7] (fun n s h' => ∃ seen : Array Nat, n = (zs0.filter fun y => !decide (y.2 ∈ seen)).length ∧ s = ⟨19, [(0, .map (some m)), (1, .func (.func 20) #[] #[ptr t]), (7, ptr h.next)]⟩ ∧
    Own O h' (cell h.next (.other (.mapIter (some m) clock seen clock)) :: mpz tx crV m (zs0.filter fun y => !(decide (y.2 ∈ seen) && decide (y.1.2.1.g.en < now))) clock :: cell t (.row [.int .i64 now] 2 1 true false) :: R)) ?_ ?_
  · refine ⟨_, #[], rfl, by simp [go_sem], ?_⟩
    have : (zs0.filter fun y => !(decide (y.2 ∈ (#[] : Array Nat)) && decide (y.1.2.1.g.en < now))) = zs0 := by rw [List.filter_eq_self]; simp
    rw [this]; exact k2
  rintro n s h' ⟨seen, rfl, rfl, kt⟩
  refine AWP.seq ?_
  refine AWP.nextE rfl rfl rfl rfl (by simp [go_sem]; rfl) ?_
  refine kt.nextA txEnc.flat (fun z hz => hz3 z (List.mem_filter.1 hz).1) (Nat.le_refl _) ?_ ?_
  · intro hall
    refine awpL_restE (by simp [go_sem]; exact ⟨rfl, rfl⟩) ?_; try dsimp only [thn, inBlk]
    (repeat' first
      | refine AWP.seq ?_
      | refine AWP.block ?_
      | (refine AWP.skip ?_; try dsimp only [thn, inBlk])
      | (refine AWP.exit ?_; try simp only [thn, inBlk, if_true, reduceIte, Nat.reduceEqDiff])
      | (refine AWP.ret ?_; try dsimp only [thn, inBlk])
      | (refine AWP.condT ?_ ?_; (focus (simp [go_sem]; done)))
      | (refine AWP.condF ?_ ?_; (focus (simp [go_sem]; done)))
      | (apply AWP.rE; (focus (simp [go_sem]; exact ⟨rfl, rfl⟩)); try dsimp only [thn, inBlk])
      | fail)
    simp [bodyQ, thn, inBlk, resA, resV, go_sem]
    have : (zs0.filter fun y => !(decide (y.2 ∈ seen) && decide (y.1.2.1.g.en < now))) = zs0.filter fun y => !decide (y.1.2.1.g.en < now) := by
      apply List.filter_congr
      intro y hy
      by_cases hs : y.2 ∈ seen
      · simp [hs]
      · have := mt (hall y) hs
        simp [hy, hs] at this
    rw [this] at kt
    refine Own.sbl (L := mpc tx crV m (l.filter fun a => !decide (a.2.1.g.en < now)) :: cell t (.row [.int .i64 now] 2 1 true false) :: R) (Sbl.rfl _) (mpc_mpz.2 ⟨_, clock, ?_, (List.Sublist.map _ List.filter_sublist).nodup hz2, fun z hz => hz3 z (List.mem_filter.1 hz).1, kt.tail⟩)
    rw [← hz1, List.filter_map]
    rfl
  · intro z hz hns
    have k3 := kt.set (.other (.mapIter (some m) clock (seen.push z.2) clock))
    have e4 := k3.entryR txEnc.flat ((List.Sublist.map _ List.filter_sublist).nodup hz2) hz
    obtain ⟨⟨nm, c, p⟩, b⟩ := z
    have hz' := (List.mem_filter.1 hz).1
    simp only at e4
    generalize hh3 : h'.set h.next (.other (.mapIter (some m) clock (seen.push b) clock)) = h3 at *
    have k4 := k3.push (.row (cr c p) 34 23 true false)
    have c4 := k4.obj
    refine awpL_restE (by simp [go_sem]; exact ⟨rfl, rfl⟩) ?_; try dsimp only [thn, inBlk]
    (repeat' first
      | refine AWP.seq ?_
      | refine AWP.block ?_
      | (refine AWP.skip ?_; try dsimp only [thn, inBlk])
      | (refine AWP.exit ?_; try simp only [thn, inBlk, if_true, reduceIte, Nat.reduceEqDiff])
      | (refine AWP.ret ?_; try dsimp only [thn, inBlk])
      | (refine AWP.condT ?_ ?_; (focus (simp [go_sem, e4, ↓allocC, c4]; done)))
      | (refine AWP.condF ?_ ?_; (focus (simp [go_sem, e4, ↓allocC, c4]; done)))
      | (apply AWP.rE; (focus (simp [go_sem, e4, ↓allocC, c4]; exact ⟨rfl, rfl⟩)); try dsimp only [thn, inBlk])
      | fail)
    refine AWP.callE (by simp [go_sem, c4]; exact ⟨rfl, rfl, rfl, rfl, rfl⟩) (by kernel_rfl) ?_
    refine (old_calls (t := t) (c := c) (p := p) (now := now) (n := nm) (k4.b3)).mono ?_
    rintro v h5 ⟨rfl, k5⟩
    have c5 := k5.b1.obj
    by_cases hd : c.g.en < now
    · obtain ⟨h6, e6, _, k6⟩ := k5.b3.delZ txEnc (P := Tryd.prog) (t := 53) Tryd.underlying53 hz (fun z hz => hok z (List.mem_filter.1 hz).1) ((List.Sublist.map _ List.filter_sublist).nodup hkn)
      simp only at e6
      refine awpL_restE (by simp [go_sem]; exact ⟨rfl, rfl⟩) ?_; try dsimp only [thn, inBlk]
      (repeat' first
        | refine AWP.seq ?_
        | refine AWP.block ?_
        | (refine AWP.skip ?_; try dsimp only [thn, inBlk])
        | (refine AWP.exit ?_; try simp only [thn, inBlk, if_true, reduceIte, Nat.reduceEqDiff])
        | (refine AWP.ret ?_; try dsimp only [thn, inBlk])
        | (refine AWP.condT ?_ ?_; (focus (simp [go_sem, hd, c5, e6]; done)))
        | (refine AWP.condF ?_ ?_; (focus (simp [go_sem, hd, c5, e6]; done)))
        | (apply AWP.rE; (focus (simp [go_sem, hd, c5, e6]; exact ⟨rfl, rfl⟩)); try dsimp only [thn, inBlk])
        | fail)
      refine ⟨_, less hz' hns, seen.push b, rfl, by simp [go_sem], ?_⟩
      rw [filt_del hz2 hkn hz' hd _ (fun y => by by_cases e : y.1.1 = nm <;> simp [e])] at k6
      (refine Own.sbl ?_ (k6); repeat' first | exact Sbl.nil _ | with_reducible exact Sbl.rfl _ | (apply Sbl.cons) | (apply Sbl.skip) | with_reducible exact Fnd.head _ _ | (apply Fnd.tail))
    · refine awpL_restE (by simp [go_sem]; exact ⟨rfl, rfl⟩) ?_; try dsimp only [thn, inBlk]
      (repeat' first
        | refine AWP.seq ?_
        | refine AWP.block ?_
        | (refine AWP.skip ?_; try dsimp only [thn, inBlk])
        | (refine AWP.exit ?_; try simp only [thn, inBlk, if_true, reduceIte, Nat.reduceEqDiff])
        | (refine AWP.ret ?_; try dsimp only [thn, inBlk])
        | (refine AWP.condT ?_ ?_; (focus (simp [go_sem, hd, c5]; done)))
        | (refine AWP.condF ?_ ?_; (focus (simp [go_sem, hd, c5]; done)))
        | (apply AWP.rE; (focus (simp [go_sem, hd, c5]; exact ⟨rfl, rfl⟩)); try dsimp only [thn, inBlk])
        | fail)
      refine ⟨_, less hz' hns, seen.push b, rfl, by simp [go_sem], ?_⟩
      rw [filt_keep hz2 hz' hd] at k5
      (refine Own.sbl ?_ (k5); repeat' first | exact Sbl.nil _ | with_reducible exact Sbl.rfl _ | (apply Sbl.cons) | (apply Sbl.skip) | with_reducible exact Fnd.head _ _ | (apply Fnd.tail))
end
end L11
