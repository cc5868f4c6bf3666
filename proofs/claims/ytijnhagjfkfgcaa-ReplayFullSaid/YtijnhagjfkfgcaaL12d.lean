import Derived.Test.YtijnhagjfkfgcaaL12c
open Go Ab Go.Proofs
namespace L12
set_option autoImplicit false
set_option linter.unusedSimpArgs false
set_option linter.unusedVariables false

/-- What is left of what is remembered. -/
def left (l : List Au) (now : Int) : List Au := l.filter fun o => !abv now o.tm
open Classical in
/-- What an authenticator comes to. -/
noncomputable def seenR (l : List Au) (c : Bool) (u : Int) (a : Au) (now : Int) : Int × List Au :=
  if abv a.tm now = true ∨ abv now a.tm = true then (65, l)
  else if c = true ∧ abv a.tm u = false then (68, l)
  else if a ∈ left l now then (66, left l now)
  else if 16 ≤ (left l now).length then (2, left l now)
  else (0, left l now ++ [a])

structure Cok (l : List Au) (u : Int) : Prop where
  ok : ∀ a ∈ l, a.Ok
  nd : l.Nodup
  len : l.length ≤ 16
  un : I64 u

theorem left_sub (l : List Au) (now : Int) : (left l now).Sublist l := List.filter_sublist
theorem Cok.left {l : List Au} {u : Int} (k : Cok l u) (now : Int) : Cok (left l now) u :=
  ⟨fun a ha => k.ok a ((left_sub l now).subset ha), (left_sub l now).nodup k.nd, Nat.le_trans (left_sub l now).length_le k.len, k.un⟩
theorem Cok.seen {l : List Au} {c : Bool} {u : Int} (k : Cok l u) {a : Au} (ha : a.Ok) (now : Int) : Cok (seenR l c u a now).2 u := by
  have k2 := k.left now
  unfold seenR
  split
  · exact k
  · split
    · exact k
    · split
      · exact k2
      · split
        · exact k2
        · rename_i h1 h2
          refine ⟨fun b hb => ?_, ?_, by simp; omega, k.un⟩
          · rcases List.mem_append.1 hb with hb | hb
            · exact k2.ok b hb
            · simp at hb; subst hb; exact ha
          · rw [List.nodup_append]
            exact ⟨k2.nd, by simp, fun b hb x hx => by simp at hx; subst hx; rintro rfl; exact h1 hb⟩

set_option maxHeartbeats 8000000 in
theorem seen_calls {O : Old} {h : AHeap} {R : List Chunk} {i : Nat} {l : List Au} {c : Bool} {u now : Int} {a : Au} (k : Own O h (cch i l c u :: R)) (kc : Cok l u) (ha : a.Ok) (hn : I64 now) :
    ACalls Try.prog 12 #[ptr i, auV a, .int .i64 now] h fun v h' => v = .int .i64 (seenR l c u a now).1 ∧ Own O h' (cch i (seenR l c u a now).2 c u :: R) := by
  refine ACalls.of_awp (args := [ptr i, auV a, .int .i64 now]) (n := 57) Try.func12 rfl rfl (by show 3 ≤ 57; omega) ?_
  have hk := ha.ky
  obtain ⟨m, k0⟩ := cch_iff.1 k
  have k1 := k0.push (.row (au a) 35 19 true false)
  have k2 := k1.push (.row [.int .i64 now] 2 1 true false)
  have c1 := k2.b1.obj
  have c2 := k2.b2.obj
  have back : ∀ {hh : AHeap} {l : List Au}, Own O hh (cell i (crow m c u) :: mpc auV one m (l.map fun a => (a, ())) :: R) → Own O hh (cch i l c u :: R) := fun kk => cch_iff.2 ⟨m, kk⟩
  refine AWP.seq ?_
  (apply AWP.rE; (focus (simp [go_sem, hk]; exact ⟨rfl, rfl⟩)); try dsimp only [thn, inBlk])
  generalize hh : (h.push (.row (au a) 35 19 true false)).push (.row [.int .i64 now] 2 1 true false) = h2 at *
  have k2' : Own O h2 (cell (h.next + 1) (.row [.int .i64 now] 2 1 true false) :: cell h.next (.row (au a) 35 19 true false) :: cell i (crow m c u) :: mpc auV one m (l.map fun a => (a, ())) :: R) := k2
  have c0 := k2'.obj
  refine AWP.cut [0, 4, 5] (fun s h' => s = ⟨57, [(0, ptr i), (4, ptr h.next), (5, ptr (h.next + 1))]⟩ ∧ h' = h2 ∧ ¬ (abv a.tm now = true ∨ abv now a.tm = true) ∧ ¬ (c = true ∧ abv a.tm u = false)) ?_ ?_
  · (repeat' first
      | refine AWP.seq ?_
      | refine AWP.block ?_
      | (refine AWP.skip ?_; try dsimp only [thn, inBlk])
      | (refine AWP.exit ?_; try simp only [thn, inBlk, if_true])
      | (refine AWP.ret ?_; try dsimp only [thn, inBlk])
      | (refine AWP.condT ?_ ?_; (focus (simp [go_sem]; done)))
      | (refine AWP.condF ?_ ?_; (focus (simp [go_sem]; done)))
      | (apply AWP.rE; (focus (simp [go_sem]; exact ⟨rfl, rfl⟩)); try dsimp only [thn, inBlk])
      | (apply AWP.dE hmix [.n 0 [0], .n 1 [38], .n 2 [39], .n 3 [40], .n 4 [4], .n 5 [41, 42], .n 6 [43], .n 7 [44]]; (focus kernel_rfl); (focus (simp [go_sem]; exact ⟨rfl, rfl⟩)); try dsimp only [thn, inBlk])
      | (apply AWP.dE hmix [.n 0 [0], .n 1 [52], .n 2 [53], .n 3 [54], .n 4 [4], .w 5 [55, 56] []]; (focus kernel_rfl); (focus (simp [go_sem]; exact ⟨rfl, rfl⟩)); try dsimp only [thn, inBlk])
      | fail)
    refine AWP.callE (by simp [go_sem, c0, c1]; exact ⟨rfl, rfl, rfl, rfl, rfl⟩) (by kernel_rfl) ?_
    refine (above_calls ha.tm hn).mono ?_
    rintro v h3 ⟨rfl, rfl⟩
    cases e1 : abv a.tm now with
    | true =>
      have es : seenR l c u a now = (65, l) := by unfold seenR; rw [if_pos (.inl e1)]
      rw [es]
      refine awpL_restE (by simp [go_sem]; exact ⟨rfl, rfl⟩) ?_; try dsimp only [thn, inBlk]
      (repeat' first
        | refine AWP.seq ?_
        | refine AWP.block ?_
        | (refine AWP.skip ?_; try dsimp only [thn, inBlk])
        | (refine AWP.exit ?_; try simp only [thn, inBlk, if_true])
        | (refine AWP.ret ?_; try dsimp only [thn, inBlk])
        | (refine AWP.condT ?_ ?_; (focus (simp [go_sem]; done)))
        | (refine AWP.condF ?_ ?_; (focus (simp [go_sem]; done)))
        | (apply AWP.rE; (focus (simp [go_sem]; exact ⟨rfl, rfl⟩)); try dsimp only [thn, inBlk])
        | (apply AWP.dE hmix [.n 0 [0], .n 1 [38], .n 2 [39], .n 3 [40], .n 4 [4], .n 5 [41, 42], .n 6 [43], .n 7 [44]]; (focus kernel_rfl); (focus (simp [go_sem]; exact ⟨rfl, rfl⟩)); try dsimp only [thn, inBlk])
        | (apply AWP.dE hmix [.n 0 [0], .n 1 [52], .n 2 [53], .n 3 [54], .n 4 [4], .w 5 [55, 56] []]; (focus kernel_rfl); (focus (simp [go_sem]; exact ⟨rfl, rfl⟩)); try dsimp only [thn, inBlk])
        | fail)
      simp [bodyQ, thn, inBlk, resA, resV, go_sem]
      exact back k2'.tail.tail
    | false =>
    refine awpL_restE (by simp [go_sem]; exact ⟨rfl, rfl⟩) ?_; try dsimp only [thn, inBlk]
    (repeat' first
      | refine AWP.seq ?_
      | refine AWP.block ?_
      | (refine AWP.skip ?_; try dsimp only [thn, inBlk])
      | (refine AWP.exit ?_; try simp only [thn, inBlk, if_true])
      | (refine AWP.ret ?_; try dsimp only [thn, inBlk])
      | (refine AWP.condT ?_ ?_; (focus (simp [go_sem]; done)))
      | (refine AWP.condF ?_ ?_; (focus (simp [go_sem]; done)))
      | (apply AWP.rE; (focus (simp [go_sem]; exact ⟨rfl, rfl⟩)); try dsimp only [thn, inBlk])
      | (apply AWP.dE hmix [.n 0 [0], .n 1 [38], .n 2 [39], .n 3 [40], .n 4 [4], .n 5 [41, 42], .n 6 [43], .n 7 [44]]; (focus kernel_rfl); (focus (simp [go_sem]; exact ⟨rfl, rfl⟩)); try dsimp only [thn, inBlk])
      | (apply AWP.dE hmix [.n 0 [0], .n 1 [52], .n 2 [53], .n 3 [54], .n 4 [4], .w 5 [55, 56] []]; (focus kernel_rfl); (focus (simp [go_sem]; exact ⟨rfl, rfl⟩)); try dsimp only [thn, inBlk])
      | fail)
    refine AWP.callE (by simp [go_sem, c0, c1]; exact ⟨rfl, rfl, rfl, rfl, rfl⟩) (by kernel_rfl) ?_
    refine (above_calls hn ha.tm).mono ?_
    rintro v h3 ⟨rfl, rfl⟩
    cases e2 : abv now a.tm with
    | true =>
      have es : seenR l c u a now = (65, l) := by unfold seenR; rw [if_pos (.inr e2)]
      rw [es]
      refine awpL_restE (by simp [go_sem]; exact ⟨rfl, rfl⟩) ?_; try dsimp only [thn, inBlk]
      (repeat' first
        | refine AWP.seq ?_
        | refine AWP.block ?_
        | (refine AWP.skip ?_; try dsimp only [thn, inBlk])
        | (refine AWP.exit ?_; try simp only [thn, inBlk, if_true])
        | (refine AWP.ret ?_; try dsimp only [thn, inBlk])
        | (refine AWP.condT ?_ ?_; (focus (simp [go_sem]; done)))
        | (refine AWP.condF ?_ ?_; (focus (simp [go_sem]; done)))
        | (apply AWP.rE; (focus (simp [go_sem]; exact ⟨rfl, rfl⟩)); try dsimp only [thn, inBlk])
        | (apply AWP.dE hmix [.n 0 [0], .n 1 [38], .n 2 [39], .n 3 [40], .n 4 [4], .n 5 [41, 42], .n 6 [43], .n 7 [44]]; (focus kernel_rfl); (focus (simp [go_sem]; exact ⟨rfl, rfl⟩)); try dsimp only [thn, inBlk])
        | (apply AWP.dE hmix [.n 0 [0], .n 1 [52], .n 2 [53], .n 3 [54], .n 4 [4], .w 5 [55, 56] []]; (focus kernel_rfl); (focus (simp [go_sem]; exact ⟨rfl, rfl⟩)); try dsimp only [thn, inBlk])
        | fail)
      simp [bodyQ, thn, inBlk, resA, resV, go_sem]
      exact back k2'.tail.tail
    | false =>
    have hno : ¬ (abv a.tm now = true ∨ abv now a.tm = true) := by simp [e1, e2]
    refine awpL_restE (by simp [go_sem]; exact ⟨rfl, rfl⟩) ?_; try dsimp only [thn, inBlk]
    (repeat' first
      | refine AWP.seq ?_
      | refine AWP.block ?_
      | (refine AWP.skip ?_; try dsimp only [thn, inBlk])
      | (refine AWP.exit ?_; try simp only [thn, inBlk, if_true])
      | (refine AWP.ret ?_; try dsimp only [thn, inBlk])
      | (refine AWP.condT ?_ ?_; (focus (simp [go_sem]; done)))
      | (refine AWP.condF ?_ ?_; (focus (simp [go_sem]; done)))
      | (apply AWP.rE; (focus (simp [go_sem]; exact ⟨rfl, rfl⟩)); try dsimp only [thn, inBlk])
      | (apply AWP.dE hmix [.n 0 [0], .n 1 [38], .n 2 [39], .n 3 [40], .n 4 [4], .n 5 [41, 42], .n 6 [43], .n 7 [44]]; (focus kernel_rfl); (focus (simp [go_sem]; exact ⟨rfl, rfl⟩)); try dsimp only [thn, inBlk])
      | (apply AWP.dE hmix [.n 0 [0], .n 1 [52], .n 2 [53], .n 3 [54], .n 4 [4], .w 5 [55, 56] []]; (focus kernel_rfl); (focus (simp [go_sem]; exact ⟨rfl, rfl⟩)); try dsimp only [thn, inBlk])
      | fail)
    cases c with
    | false =>
      (apply AWP.dE hmix [.n 0 [0], .n 1 [17], .n 2 [18], .n 3 [19], .n 4 [20], .n 5 [4, 21], .n 6 [22, 21], .n 7 [0, 21], .n 8 [24, 21], .n 9 [25, 21], .n 10 [26, 21], .w 11 [23, 27, 21] [], .n 12 [28, 21], .n 13 [21, 29], .n 14 [30]]; (focus kernel_rfl); (focus (simp [go_sem, c2]; exact ⟨rfl, rfl⟩)); try dsimp only [thn, inBlk])
      (repeat' first
        | refine AWP.seq ?_
        | refine AWP.block ?_
        | (refine AWP.skip ?_; try dsimp only [thn, inBlk])
        | (refine AWP.exit ?_; try simp only [thn, inBlk, if_true])
        | (refine AWP.ret ?_; try dsimp only [thn, inBlk])
        | (refine AWP.condT ?_ ?_; (focus (simp [go_sem]; done)))
        | (refine AWP.condF ?_ ?_; (focus (simp [go_sem]; done)))
        | (apply AWP.rE; (focus (simp [go_sem]; exact ⟨rfl, rfl⟩)); try dsimp only [thn, inBlk])
        | (apply AWP.dE hmix [.n 0 [0], .n 1 [38], .n 2 [39], .n 3 [40], .n 4 [4], .n 5 [41, 42], .n 6 [43], .n 7 [44]]; (focus kernel_rfl); (focus (simp [go_sem]; exact ⟨rfl, rfl⟩)); try dsimp only [thn, inBlk])
        | (apply AWP.dE hmix [.n 0 [0], .n 1 [52], .n 2 [53], .n 3 [54], .n 4 [4], .w 5 [55, 56] []]; (focus kernel_rfl); (focus (simp [go_sem]; exact ⟨rfl, rfl⟩)); try dsimp only [thn, inBlk])
        | fail)
      exact ⟨by simp [go_sem], rfl, by simp, by simp⟩
    | true =>
      refine AWP.draw hmix [.n 0 [0], .n 1 [17], .n 2 [18], .n 3 [19], .n 4 [20], .n 5 [4, 21], .n 6 [22, 21], .n 7 [0, 21], .n 8 [24, 21], .n 9 [25, 21], .n 10 [26, 21], .w 11 [23, 27, 21] [], .n 12 [28, 21], .n 13 [21, 29], .n 14 [30]] (by kernel_rfl) ?_
      refine awpD_callR 11 (by rfl) (by rfl) (by simp [go_sem, c1, c2]; exact ⟨rfl, rfl, rfl⟩) (by rfl) (by rfl) (by simp [go_sem]) (by simp [go_sem, c1, c2]; exact ⟨rfl, rfl⟩) (by kernel_rfl) ?_
      refine (above_calls ha.tm kc.un).mono ?_
      rintro v h3 ⟨rfl, rfl⟩
      refine ⟨by simp [still, go_sem, c1, c2], ?_⟩
      cases e3 : abv a.tm u with
      | false =>
        have es : seenR l true u a now = (68, l) := by unfold seenR; rw [if_neg hno, if_pos ⟨rfl, e3⟩]
        rw [es]
        refine awpD_restR (by rfl) (by simp [go_sem]; exact ⟨rfl, rfl, rfl⟩) ?_; try dsimp only [thn, inBlk]
        (repeat' first
          | refine AWP.seq ?_
          | refine AWP.block ?_
          | (refine AWP.skip ?_; try dsimp only [thn, inBlk])
          | (refine AWP.exit ?_; try simp only [thn, inBlk, if_true])
          | (refine AWP.ret ?_; try dsimp only [thn, inBlk])
          | (refine AWP.condT ?_ ?_; (focus (simp [go_sem]; done)))
          | (refine AWP.condF ?_ ?_; (focus (simp [go_sem]; done)))
          | (apply AWP.rE; (focus (simp [go_sem]; exact ⟨rfl, rfl⟩)); try dsimp only [thn, inBlk])
          | (apply AWP.dE hmix [.n 0 [0], .n 1 [38], .n 2 [39], .n 3 [40], .n 4 [4], .n 5 [41, 42], .n 6 [43], .n 7 [44]]; (focus kernel_rfl); (focus (simp [go_sem]; exact ⟨rfl, rfl⟩)); try dsimp only [thn, inBlk])
          | (apply AWP.dE hmix [.n 0 [0], .n 1 [52], .n 2 [53], .n 3 [54], .n 4 [4], .w 5 [55, 56] []]; (focus kernel_rfl); (focus (simp [go_sem]; exact ⟨rfl, rfl⟩)); try dsimp only [thn, inBlk])
          | fail)
        simp [bodyQ, thn, inBlk, resA, resV, go_sem]
        exact back k2'.tail.tail
      | true =>
        refine awpD_restR (by rfl) (by simp [go_sem]; exact ⟨rfl, rfl, rfl⟩) ?_; try dsimp only [thn, inBlk]
        (repeat' first
          | refine AWP.seq ?_
          | refine AWP.block ?_
          | (refine AWP.skip ?_; try dsimp only [thn, inBlk])
          | (refine AWP.exit ?_; try simp only [thn, inBlk, if_true])
          | (refine AWP.ret ?_; try dsimp only [thn, inBlk])
          | (refine AWP.condT ?_ ?_; (focus (simp [go_sem]; done)))
          | (refine AWP.condF ?_ ?_; (focus (simp [go_sem]; done)))
          | (apply AWP.rE; (focus (simp [go_sem]; exact ⟨rfl, rfl⟩)); try dsimp only [thn, inBlk])
          | (apply AWP.dE hmix [.n 0 [0], .n 1 [38], .n 2 [39], .n 3 [40], .n 4 [4], .n 5 [41, 42], .n 6 [43], .n 7 [44]]; (focus kernel_rfl); (focus (simp [go_sem]; exact ⟨rfl, rfl⟩)); try dsimp only [thn, inBlk])
          | (apply AWP.dE hmix [.n 0 [0], .n 1 [52], .n 2 [53], .n 3 [54], .n 4 [4], .w 5 [55, 56] []]; (focus kernel_rfl); (focus (simp [go_sem]; exact ⟨rfl, rfl⟩)); try dsimp only [thn, inBlk])
          | fail)
        exact ⟨by simp [go_sem], rfl, by simp, by simp⟩
  rintro s h3 ⟨rfl, rfl, hno, hnq⟩
  (repeat' first
    | refine AWP.seq ?_
    | refine AWP.block ?_
    | (refine AWP.skip ?_; try dsimp only [thn, inBlk])
    | (refine AWP.exit ?_; try simp only [thn, inBlk, if_true])
    | (refine AWP.ret ?_; try dsimp only [thn, inBlk])
    | (refine AWP.condT ?_ ?_; (focus (simp [go_sem]; done)))
    | (refine AWP.condF ?_ ?_; (focus (simp [go_sem]; done)))
    | (apply AWP.rE; (focus (simp [go_sem]; exact ⟨rfl, rfl⟩)); try dsimp only [thn, inBlk])
    | (apply AWP.dE hmix [.n 0 [0], .n 1 [38], .n 2 [39], .n 3 [40], .n 4 [4], .n 5 [41, 42], .n 6 [43], .n 7 [44]]; (focus kernel_rfl); (focus (simp [go_sem]; exact ⟨rfl, rfl⟩)); try dsimp only [thn, inBlk])
    | (apply AWP.dE hmix [.n 0 [0], .n 1 [52], .n 2 [53], .n 3 [54], .n 4 [4], .w 5 [55, 56] []]; (focus kernel_rfl); (focus (simp [go_sem]; exact ⟨rfl, rfl⟩)); try dsimp only [thn, inBlk])
    | fail)
  refine AWP.callE (by simp [go_sem, c2]; exact ⟨rfl, rfl, rfl, rfl, rfl⟩) (by kernel_rfl) ?_
  have kin : Own O h3 (mpc auV one m (l.map fun a => (a, ())) :: cell (h.next + 1) (.row [.int .i64 now] 2 1 true false) :: (cell h.next (.row (au a) 35 19 true false) :: cell i (crow m c u) :: R)) := by (refine Own.sbl ?_ (k2'); repeat' first | exact Sbl.nil _ | with_reducible exact Sbl.rfl _ | (apply Sbl.cons) | (apply Sbl.skip) | with_reducible exact Fnd.head _ _ | (apply Fnd.tail))
  refine (deleteFunc_calls kin kc.ok kc.nd hn).mono ?_
  rintro v h4 k4
  have t16 : List.take 16 (a.ky.map B) = a.ky.map B := List.take_of_length_le (by simp [hk])
  have t16' : List.take 16 a.ky = a.ky := List.take_of_length_le (by omega)
  have d1 := k4.b2.obj
  have d2 := k4.b3.obj
  have kl := kc.left now
  change Own O h4 (mpc auV one m ((left l now).map fun a => (a, ())) :: _) at k4
  have hg : ∀ p ∈ (left l now).map (fun a => (a, ())), p.1.Ok := fun p hp => by
    obtain ⟨x, hx, rfl⟩ := List.mem_map.1 hp
    exact kl.ok x hx
  have hnd : (((left l now).map fun a => (a, ())).map (·.1)).Nodup := by
    rw [List.map_map]; simpa [Function.comp_def] using kl.nd
  by_cases hm : a ∈ left l now
  · have es : seenR l c u a now = (66, left l now) := by unfold seenR; rw [if_neg hno, if_neg hnq, if_pos hm]
    have f1 := k4.map_hit auEnc (P := Try.prog) (t := 47) Try.underlying47 tz3 rfl (x := a) (v := ()) ha hg hnd (List.mem_map.2 ⟨a, hm, rfl⟩) false
    simp only [Bool.false_eq_true, if_false] at f1
    rw [es]
    refine awpL_restE (by simp [go_sem]; exact ⟨rfl, rfl⟩) ?_; try dsimp only [thn, inBlk]
    (repeat' first
      | refine AWP.seq ?_
      | refine AWP.block ?_
      | (refine AWP.skip ?_; try dsimp only [thn, inBlk])
      | (refine AWP.exit ?_; try simp only [thn, inBlk, if_true])
      | (refine AWP.ret ?_; try dsimp only [thn, inBlk])
      | (refine AWP.condT ?_ ?_; (focus (simp [go_sem, d1, d2, hk, t16, t16', f1]; done)))
      | (refine AWP.condF ?_ ?_; (focus (simp [go_sem, d1, d2, hk, t16, t16', f1]; done)))
      | (apply AWP.rE; (focus (simp [go_sem, d1, d2, hk, t16, t16', f1]; exact ⟨rfl, rfl⟩)); try dsimp only [thn, inBlk])
      | (apply AWP.dE hmix [.n 0 [0], .n 1 [38], .n 2 [39], .n 3 [40], .n 4 [4], .n 5 [41, 42], .n 6 [43], .n 7 [44]]; (focus kernel_rfl); (focus (simp [go_sem, d1, d2, hk, t16, t16', f1]; exact ⟨rfl, rfl⟩)); try dsimp only [thn, inBlk])
      | (apply AWP.dE hmix [.n 0 [0], .n 1 [52], .n 2 [53], .n 3 [54], .n 4 [4], .w 5 [55, 56] []]; (focus kernel_rfl); (focus (simp [go_sem, d1, d2, hk, t16, t16', f1]; exact ⟨rfl, rfl⟩)); try dsimp only [thn, inBlk])
      | fail)
    simp [bodyQ, thn, inBlk, resA, resV, go_sem]
    exact back (by (refine Own.sbl ?_ (k4); repeat' first | exact Sbl.nil _ | with_reducible exact Sbl.rfl _ | (apply Sbl.cons) | (apply Sbl.skip) | with_reducible exact Fnd.head _ _ | (apply Fnd.tail)))
  have f1 := k4.map_miss auEnc (P := Try.prog) (t := 47) Try.underlying47 tz3 rfl (x := a) ha hg hnd (fun p hp e => by
    obtain ⟨x, hx, rfl⟩ := List.mem_map.1 hp
    exact hm (e ▸ hx)) false
  simp only [Bool.false_eq_true, if_false] at f1
  obtain ⟨es, clk, o1, o2⟩ := k4.map_obj
  rw [List.length_map] at o2
  by_cases h16 : 16 ≤ (left l now).length
  · have es : seenR l c u a now = (2, left l now) := by unfold seenR; rw [if_neg hno, if_neg hnq, if_neg hm, if_pos h16]
    have h16' : (16 : Int) ≤ ((left l now).length : Int) := by omega
    rw [es]
    refine awpL_restE (by simp [go_sem]; exact ⟨rfl, rfl⟩) ?_; try dsimp only [thn, inBlk]
    (repeat' first
      | refine AWP.seq ?_
      | refine AWP.block ?_
      | (refine AWP.skip ?_; try dsimp only [thn, inBlk])
      | (refine AWP.exit ?_; try simp only [thn, inBlk, if_true])
      | (refine AWP.ret ?_; try dsimp only [thn, inBlk])
      | (refine AWP.condT ?_ ?_; (focus (simp [go_sem, d1, d2, hk, t16, t16', f1, o1, o2, h16, h16']; done)))
      | (refine AWP.condF ?_ ?_; (focus (simp [go_sem, d1, d2, hk, t16, t16', f1, o1, o2, h16, h16']; done)))
      | (apply AWP.rE; (focus (simp [go_sem, d1, d2, hk, t16, t16', f1, o1, o2, h16, h16']; exact ⟨rfl, rfl⟩)); try dsimp only [thn, inBlk])
      | (apply AWP.dE hmix [.n 0 [0], .n 1 [38], .n 2 [39], .n 3 [40], .n 4 [4], .n 5 [41, 42], .n 6 [43], .n 7 [44]]; (focus kernel_rfl); (focus (simp [go_sem, d1, d2, hk, t16, t16', f1, o1, o2, h16, h16']; exact ⟨rfl, rfl⟩)); try dsimp only [thn, inBlk])
      | (apply AWP.dE hmix [.n 0 [0], .n 1 [52], .n 2 [53], .n 3 [54], .n 4 [4], .w 5 [55, 56] []]; (focus kernel_rfl); (focus (simp [go_sem, d1, d2, hk, t16, t16', f1, o1, o2, h16, h16']; exact ⟨rfl, rfl⟩)); try dsimp only [thn, inBlk])
      | fail)
    simp [bodyQ, thn, inBlk, resA, resV, go_sem]
    exact back (by (refine Own.sbl ?_ (k4); repeat' first | exact Sbl.nil _ | with_reducible exact Sbl.rfl _ | (apply Sbl.cons) | (apply Sbl.skip) | with_reducible exact Fnd.head _ _ | (apply Fnd.tail)))
  have es : seenR l c u a now = (0, left l now ++ [a]) := by unfold seenR; rw [if_neg hno, if_neg hnq, if_neg hm, if_neg h16]
  have h16' : ¬ (16 : Int) ≤ ((left l now).length : Int) := by omega
  obtain ⟨h5, e5, _, k5⟩ := k4.map_put auEnc (P := Try.prog) (t := 47) Try.underlying47 (x := a) (v := ()) ha hg hnd (fun p hp e => by
    obtain ⟨x, hx, rfl⟩ := List.mem_map.1 hp
    exact hm (e ▸ hx))
  rw [es]
  refine awpL_restE (by simp [go_sem]; exact ⟨rfl, rfl⟩) ?_; try dsimp only [thn, inBlk]
  (repeat' first
    | refine AWP.seq ?_
    | refine AWP.block ?_
    | (refine AWP.skip ?_; try dsimp only [thn, inBlk])
    | (refine AWP.exit ?_; try simp only [thn, inBlk, if_true])
    | (refine AWP.ret ?_; try dsimp only [thn, inBlk])
    | (refine AWP.condT ?_ ?_; (focus (simp [go_sem, d1, d2, hk, t16, t16', f1, o1, o2, h16, h16', e5]; done)))
    | (refine AWP.condF ?_ ?_; (focus (simp [go_sem, d1, d2, hk, t16, t16', f1, o1, o2, h16, h16', e5]; done)))
    | (apply AWP.rE; (focus (simp [go_sem, d1, d2, hk, t16, t16', f1, o1, o2, h16, h16', e5]; exact ⟨rfl, rfl⟩)); try dsimp only [thn, inBlk])
    | (apply AWP.dE hmix [.n 0 [0], .n 1 [38], .n 2 [39], .n 3 [40], .n 4 [4], .n 5 [41, 42], .n 6 [43], .n 7 [44]]; (focus kernel_rfl); (focus (simp [go_sem, d1, d2, hk, t16, t16', f1, o1, o2, h16, h16', e5]; exact ⟨rfl, rfl⟩)); try dsimp only [thn, inBlk])
    | (apply AWP.dE hmix [.n 0 [0], .n 1 [52], .n 2 [53], .n 3 [54], .n 4 [4], .w 5 [55, 56] []]; (focus kernel_rfl); (focus (simp [go_sem, d1, d2, hk, t16, t16', f1, o1, o2, h16, h16', e5]; exact ⟨rfl, rfl⟩)); try dsimp only [thn, inBlk])
    | fail)
  simp [bodyQ, thn, inBlk, resA, resV, go_sem]
  have e : ((left l now ++ [a]).map fun a => (a, ())) = (left l now).map (fun a => (a, ())) ++ [(a, ())] := by simp
  exact cch_iff.2 ⟨m, by rw [e]; exact (by (refine Own.sbl ?_ (k5); repeat' first | exact Sbl.nil _ | with_reducible exact Sbl.rfl _ | (apply Sbl.cons) | (apply Sbl.skip) | with_reducible exact Fnd.head _ _ | (apply Fnd.tail)))⟩
end L12
