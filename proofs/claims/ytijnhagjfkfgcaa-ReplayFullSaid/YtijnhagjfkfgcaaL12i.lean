import Derived.Test.YtijnhagjfkfgcaaL12h
open Go Ab Go.Proofs
namespace L12
set_option autoImplicit false
set_option linter.unusedSimpArgs false
set_option linter.unusedVariables false
attribute [go_sem] foldA max2A

/-- What happened: each authenticator that was taken is still remembered, or is too old for now, or is closed out. -/
structure Once (T L : List Au) (c : Bool) (u now : Int) : Prop where
  kept : ∀ a ∈ T, a ∈ L ∨ abv now a.tm = true ∨ (c = true ∧ abv a.tm u = false)
  low : ∀ a ∈ T, a.tm ≤ now + 10
  nd : T.Nodup
  ok : ∀ a ∈ T, a.Ok

theorem Once.later {T L : List Au} {c : Bool} {u now n2 : Int} (k : Once T L c u now) (h : now ≤ n2) : Once T L c u n2 where
  kept := fun a ha => by
    rcases k.kept a ha with h1 | h1 | h1
    · exact .inl h1
    · refine .inr (.inl ?_); simp [abv] at h1 ⊢; omega
    · exact .inr (.inr h1)
  low := fun a ha => by have := k.low a ha; omega
  nd := k.nd
  ok := k.ok
theorem Once.restart {T L : List Au} {c : Bool} {u now : Int} (k : Once T L c u now) : Once T [] true (unt c u now) now where
  kept := fun a ha => by
    refine .inr (.inr ⟨rfl, ?_⟩)
    have := k.low a ha
    have hu : now ≤ unt c u now := by
      unfold unt
      split
      · rename_i hh; exact hh.2
      · omega
    simp [abv]; omega
  low := k.low
  nd := k.nd
  ok := k.ok
theorem seen_cases (L : List Au) (c : Bool) (u : Int) (a : Au) (now : Int) : ((seenR L c u a now).1 ≠ 0 ∧ ((seenR L c u a now).2 = L ∨ (seenR L c u a now).2 = left L now)) ∨
    ((seenR L c u a now) = (0, left L now ++ [a]) ∧ abv a.tm now = false ∧ abv now a.tm = false ∧ ¬ (c = true ∧ abv a.tm u = false) ∧ a ∉ left L now) := by
  unfold seenR
  by_cases h1 : abv a.tm now = true ∨ abv now a.tm = true
  · rw [if_pos h1]; exact .inl ⟨by simp, .inl rfl⟩
  rw [if_neg h1]
  by_cases h2 : c = true ∧ abv a.tm u = false
  · rw [if_pos h2]; exact .inl ⟨by simp, .inl rfl⟩
  rw [if_neg h2]
  by_cases h3 : a ∈ left L now
  · rw [if_pos h3]; exact .inl ⟨by simp, .inr rfl⟩
  rw [if_neg h3]
  by_cases h4 : 16 ≤ (left L now).length
  · rw [if_pos h4]; exact .inl ⟨by simp, .inr rfl⟩
  rw [if_neg h4]
  simp only [not_or, Bool.not_eq_true] at h1
  exact .inr ⟨rfl, h1.1, h1.2, h2, h3⟩
theorem Once.left {T L : List Au} {c : Bool} {u now : Int} (k : Once T L c u now) : Once T (left L now) c u now where
  kept := fun a ha => by
    rcases k.kept a ha with h1 | h1 | h1
    · cases h : abv now a.tm with
      | true => exact .inr (.inl rfl)
      | false => exact .inl (List.mem_filter.2 ⟨h1, by simp [h]⟩)
    · exact .inr (.inl h1)
    · exact .inr (.inr h1)
  low := k.low
  nd := k.nd
  ok := k.ok
theorem Once.no {T L : List Au} {c : Bool} {u now : Int} (k : Once T L c u now) {a : Au} (h1 : abv now a.tm = false) (h2 : ¬ (c = true ∧ abv a.tm u = false)) (h3 : a ∉ L12.left L now) : a ∉ T := fun ha => by
  rcases k.left.kept a ha with h | h | h
  · exact h3 h
  · rw [h1] at h; cases h
  · exact h2 h
theorem Once.take {T L : List Au} {c : Bool} {u now : Int} (k : Once T L c u now) {a : Au} (ha : a.Ok) (h0 : abv a.tm now = false) (h1 : abv now a.tm = false) (h2 : ¬ (c = true ∧ abv a.tm u = false)) (h3 : a ∉ L12.left L now) : Once (T ++ [a]) (L12.left L now ++ [a]) c u now where
  kept := fun b hb => by
    rcases List.mem_append.1 hb with hb | hb
    · rcases k.left.kept b hb with h | h | h
      · exact .inl (List.mem_append_left _ h)
      · exact .inr (.inl h)
      · exact .inr (.inr h)
    · exact .inl (List.mem_append_right _ hb)
  low := fun b hb => by
    rcases List.mem_append.1 hb with hb | hb
    · exact k.low b hb
    · simp at hb; subst hb; simp [abv] at h0; omega
  nd := by
    rw [List.nodup_append]
    exact ⟨k.nd, by simp, fun b hb x hx => by simp at hx; subst hx; rintro rfl; exact k.no h1 h2 h3 hb⟩
  ok := fun b hb => by
    rcases List.mem_append.1 hb with hb | hb
    · exact k.ok b hb
    · simp at hb; subst hb; exact ha

abbrev tru : Unit → Value := fun _ => .bool true
abbrev tk (m : Nat) (T : List Au) : Chunk := mpc auV tru m (T.map fun a => (a, ()))


set_option maxHeartbeats 8000000 in
theorem once_calls {h : AHeap} {v : Value} {l : List Opr} (hb : h.base = h.next) (hs : Script h v l) (hw : ∀ o ∈ l, o.Wf) :
    ACalls Try.prog 4 #[v] h fun r _ => r = .bool true := by
  refine Own.of_wf fun k0 => ?_
  obtain ⟨va, vc, rfl⟩ := hs.val
  refine ACalls.of_awp (args := [.slice va l.length vc]) (n := 48) Try.func4 rfl rfl (by show 1 ≤ 48; omega) ?_
  have HS : ∀ {hh : AHeap} {L : List Chunk}, Own h.asOld hh L → Script hh (.slice va l.length vc) l := fun o => Sl.of_old hs hb o
  (repeat' first
    | refine AWP.seq ?_
    | refine AWP.block ?_
    | (refine AWP.skip ?_; try dsimp only [thn, inBlk])
    | (refine AWP.exit ?_; try simp only [thn, inBlk, if_true])
    | (refine AWP.ret ?_; try dsimp only [thn, inBlk])
    | (refine AWP.condT ?_ ?_; (focus (simp [go_sem]; done)))
    | (refine AWP.condF ?_ ?_; (focus (simp [go_sem]; done)))
    | (apply AWP.rE; (focus (simp [go_sem]; exact ⟨rfl, rfl⟩)); try dsimp only [thn, inBlk])
    | fail)
  refine AWP.callE (by simp [go_sem]; exact ⟨rfl, rfl, rfl, rfl, rfl⟩) (by kernel_rfl) ?_
  refine (speaks_calls k0).mono ?_
  rintro r h1 ⟨rfl, k1⟩
  refine awpL_restE (by simp [go_sem]; exact ⟨rfl, rfl⟩) ?_; try dsimp only [thn, inBlk]
  (repeat' first
    | refine AWP.seq ?_
    | refine AWP.block ?_
    | (refine AWP.skip ?_; try dsimp only [thn, inBlk])
    | (refine AWP.exit ?_; try simp only [thn, inBlk, if_true])
    | (refine AWP.ret ?_; try dsimp only [thn, inBlk])
    | (refine AWP.condT ?_ ?_; (focus (simp [go_sem]; done)))
    | (refine AWP.condF ?_ ?_; (focus (simp [go_sem]; done)))
    | (apply AWP.rE; (focus (simp [go_sem]; exact ⟨rfl, rfl⟩)); try dsimp only [thn, inBlk])
    | fail)
  refine AWP.callE (by simp [go_sem]; exact ⟨rfl, rfl, rfl, rfl, rfl⟩) (by kernel_rfl) ?_
  refine (great_calls k1 (fun hh kk => HS kk) hw).mono ?_
  rintro r h2 ⟨rfl, k2⟩
  by_cases hsm : Small l
  rotate_left
  · refine awpL_restE (by simp [go_sem]; exact ⟨rfl, rfl⟩) ?_; try dsimp only [thn, inBlk]
    (repeat' first
      | refine AWP.seq ?_
      | refine AWP.block ?_
      | (refine AWP.skip ?_; try dsimp only [thn, inBlk])
      | (refine AWP.exit ?_; try simp only [thn, inBlk, if_true])
      | (refine AWP.ret ?_; try dsimp only [thn, inBlk])
      | (refine AWP.condT ?_ ?_; (focus (simp [go_sem, hsm]; done)))
      | (refine AWP.condF ?_ ?_; (focus (simp [go_sem, hsm]; done)))
      | (apply AWP.rE; (focus (simp [go_sem, hsm]; exact ⟨rfl, rfl⟩)); try dsimp only [thn, inBlk])
      | fail)
    simp [bodyQ, thn, inBlk, resA, resV, go_sem]
  refine awpL_restE (by simp [go_sem]; exact ⟨rfl, rfl⟩) ?_; try dsimp only [thn, inBlk]
  (repeat' first
    | refine AWP.seq ?_
    | refine AWP.block ?_
    | (refine AWP.skip ?_; try dsimp only [thn, inBlk])
    | (refine AWP.exit ?_; try simp only [thn, inBlk, if_true])
    | (refine AWP.ret ?_; try dsimp only [thn, inBlk])
    | (refine AWP.condT ?_ ?_; (focus (simp [go_sem, hsm]; done)))
    | (refine AWP.condF ?_ ?_; (focus (simp [go_sem, hsm]; done)))
    | (apply AWP.rE; (focus (simp [go_sem, hsm]; exact ⟨rfl, rfl⟩)); try dsimp only [thn, inBlk])
    | fail)
  refine AWP.callE (by simp [go_sem]; exact ⟨rfl, rfl, rfl, rfl, rfl⟩) (by kernel_rfl) ?_
  refine (new_calls k2 0).mono ?_
  rintro r h3 ⟨i, rfl, k3⟩
  refine awpL_restE (by simp [go_sem]; exact ⟨rfl, rfl⟩) ?_; try dsimp only [thn, inBlk]
  (repeat' first
    | refine AWP.seq ?_
    | refine AWP.block ?_
    | (refine AWP.skip ?_; try dsimp only [thn, inBlk])
    | (refine AWP.exit ?_; try simp only [thn, inBlk, if_true])
    | (refine AWP.ret ?_; try dsimp only [thn, inBlk])
    | (refine AWP.condT ?_ ?_; (focus (simp [go_sem]; done)))
    | (refine AWP.condF ?_ ?_; (focus (simp [go_sem]; done)))
    | (apply AWP.rE; (focus (simp [go_sem]; exact ⟨rfl, rfl⟩)); try dsimp only [thn, inBlk])
    | fail)
  have k4 : Own _ _ (tk h3.next [] :: _) := k3.map_new (ke := auV) (ve := tru)
  have hlen := hsm.1
  refine AWP.loopR [3, 4, 5, 16, 17, 18] (fun m s h' => ∃ (j : Nat) (L T : List Au) (c : Bool) (u now : Int), j ≤ l.length ∧ m = l.length - j ∧ s = ⟨48, [(3, ptr i), (4, .map (some h3.next)), (5, .int .i64 now), (16, .slice va l.length vc), (17, .int .i64 l.length), (18, .int .i64 j)]⟩ ∧
    Cok L u ∧ Once T L c u now ∧ I64 now ∧ Own h.asOld h' [cch i L c u, tk h3.next T]) ?_ ?_
  · exact ⟨_, 0, [], [], false, 0, 0, by omega, rfl, by simp [go_sem], Cok.nil ⟨by omega, by omega⟩, ⟨by simp, by simp, by simp, by simp⟩, ⟨by omega, by omega⟩, k4.b1⟩
  rintro m s h' ⟨j, L, T, c, u, now, hj, rfl, rfl, ku, ko, hnow, kt⟩
  by_cases hj2 : j < l.length
  rotate_left
  · have hj3 : ¬ (j : Int) < l.length := by omega
    (repeat' first
      | refine AWP.seq ?_
      | refine AWP.block ?_
      | (refine AWP.skip ?_; try dsimp only [thn, inBlk])
      | (refine AWP.exit ?_; try simp only [thn, inBlk, if_true])
      | (refine AWP.ret ?_; try dsimp only [thn, inBlk])
      | (refine AWP.condT ?_ ?_; (focus (simp [go_sem, hj3]; done)))
      | (refine AWP.condF ?_ ?_; (focus (simp [go_sem, hj3]; done)))
      | (apply AWP.rE; (focus (simp [go_sem, hj3]; exact ⟨rfl, rfl⟩)); try dsimp only [thn, inBlk])
      | fail)
    simp [bodyQ, thn, inBlk, resA, resV, go_sem]
  have hj3 : (j : Int) < l.length := by omega
  have wj : IntKind.i64.wrap ((j : Int) + 1) = ((j + 1 : Nat) : Int) := by rw [wI64 (by omega) (by omega)]; omega
  obtain ⟨bi, bo, bc, be, bz, bt, br, p0, q0, g3, g2⟩ := (HS kt).at hw hj2
  have hx := hw _ (List.getElem_mem hj2)
  have hcl : l[j].a.cl.length ≤ 100 := hsm.2 _ (List.getElem_mem hj2)
  have hko := opc_ok l[j]
  have hks := opc_set hx
  have hkl := opc_len hx
  have hg0 := opc_g0 l[j]
  have hg20 := opc_g20 hx
  have hau := opc_tail hx
  have q0' : (h'.push (.row [.bool false, .string ⟨#[]⟩, .int .i64 0, .int .u64 0, .int .u8 0, .int .u8 0, .int .u8 0, .int .u8 0, .int .u8 0, .int .u8 0, .int .u8 0, .int .u8 0, .int .u8 0, .int .u8 0, .int .u8 0, .int .u8 0, .int .u8 0, .int .u8 0, .int .u8 0, .int .u8 0, .int .i64 0] 37 21 true false)).obj bi = some (.row bc be bz bt br) := by
    rw [push_ne _ _ _ (fun e => by rw [e, kt.bnd _ (Nat.le_refl _)] at q0; cases q0)]; exact q0
  have k2 := kt.push (.row (opc l[j]) 37 21 true false)
  generalize l[j] = o at *
  have t8 := k2.obj
  obtain ⟨n2, hn2⟩ : ∃ n2, n2 = if now < o.now then o.now else now := ⟨_, rfl⟩
  have hle : now ≤ n2 := by rw [hn2]; split <;> omega
  have hn2' : (if now < o.now then o.now else now) = n2 := hn2.symm
  have hi2 : I64 n2 := by rw [hn2]; split; exact hx.now; exact hnow
  have ko2 := ko.later hle
  cases hr : o.r with
  | true =>
    rw [hr] at hg0
    (repeat' first
      | refine AWP.seq ?_
      | refine AWP.block ?_
      | (refine AWP.skip ?_; try dsimp only [thn, inBlk])
      | (refine AWP.exit ?_; try simp only [thn, inBlk, if_true])
      | (refine AWP.ret ?_; try dsimp only [thn, inBlk])
      | (refine AWP.condT ?_ ?_; (focus (simp [go_sem, hj3, p0, q0, q0', g3, g2, hko, hks, hkl, hg0, hg20, hn2']; done)))
      | (refine AWP.condF ?_ ?_; (focus (simp [go_sem, hj3, p0, q0, q0', g3, g2, hko, hks, hkl, hg0, hg20, hn2']; done)))
      | (apply AWP.rE; (focus (simp [go_sem, hj3, p0, q0, q0', g3, g2, hko, hks, hkl, hg0, hg20, hn2']; exact ⟨rfl, rfl⟩)); try dsimp only [thn, inBlk])
      | fail)
    refine AWP.callE (by simp [go_sem, t8, hg20, hkl]; exact ⟨rfl, rfl, rfl, rfl, rfl⟩) (by kernel_rfl) ?_
    refine (restart_calls (now := n2) k2.b1).mono ?_
    rintro r h5 k5
    refine awpL_restE (by simp [go_sem]; exact ⟨rfl, rfl⟩) ?_; try dsimp only [thn, inBlk]
    (repeat' first
      | refine AWP.seq ?_
      | refine AWP.block ?_
      | (refine AWP.skip ?_; try dsimp only [thn, inBlk])
      | (refine AWP.exit ?_; try simp only [thn, inBlk, if_true])
      | (refine AWP.ret ?_; try dsimp only [thn, inBlk])
      | (refine AWP.condT ?_ ?_; (focus (simp [go_sem, wj]; done)))
      | (refine AWP.condF ?_ ?_; (focus (simp [go_sem, wj]; done)))
      | (apply AWP.rE; (focus (simp [go_sem, wj]; exact ⟨rfl, rfl⟩)); try dsimp only [thn, inBlk])
      | fail)
    refine ⟨l.length - (j + 1), by omega, j + 1, [], T, true, unt c u n2, n2, by omega, rfl, by simp [go_sem], Cok.nil (unt_i64 ku.un hi2), ko2.restart, hi2, ?_⟩
    (refine Own.sbl ?_ (k5); repeat' first | exact Sbl.nil _ | with_reducible exact Sbl.rfl _ | (apply Sbl.cons) | (apply Sbl.skip) | with_reducible exact Fnd.head _ _ | (apply Fnd.tail))
  | false =>
    rw [hr] at hg0
    (repeat' first
      | refine AWP.seq ?_
      | refine AWP.block ?_
      | (refine AWP.skip ?_; try dsimp only [thn, inBlk])
      | (refine AWP.exit ?_; try simp only [thn, inBlk, if_true])
      | (refine AWP.ret ?_; try dsimp only [thn, inBlk])
      | (refine AWP.condT ?_ ?_; (focus (simp [go_sem, hj3, p0, q0, q0', g3, g2, hko, hks, hkl, hg0, hg20, hn2']; done)))
      | (refine AWP.condF ?_ ?_; (focus (simp [go_sem, hj3, p0, q0, q0', g3, g2, hko, hks, hkl, hg0, hg20, hn2']; done)))
      | (apply AWP.rE; (focus (simp [go_sem, hj3, p0, q0, q0', g3, g2, hko, hks, hkl, hg0, hg20, hn2']; exact ⟨rfl, rfl⟩)); try dsimp only [thn, inBlk])
      | fail)
    refine AWP.callE (by simp [go_sem, t8, hg20, hkl, hau]; exact ⟨rfl, rfl, rfl, rfl, rfl⟩) (by kernel_rfl) ?_
    have hao := hx.a.ok hcl
    refine (seen_calls (a := o.a) (now := n2) k2.b1 ku hao hi2).mono ?_
    rintro r h5 ⟨rfl, k5⟩
    have t9 := k5.b1.obj
    have kc1 := ku.seen (c := c) hao n2
    have k16 : ((seenR L c u o.a n2).2.length : Int) ≤ 16 := by have := kc1.len; omega
    have fin16 : ¬ ((16 : Int) < ((seenR L c u o.a n2).2.length : Int)) := by omega
    have t10 : List.take 16 (o.a.ky.map B) = o.a.ky.map B := List.take_of_length_le (by simp [hao.ky])
    rcases seen_cases L c u o.a n2 with ⟨hne, heq⟩ | ⟨heq, q1, q2, q3, q4⟩
    · have hne' : ((seenR L c u o.a n2).1 == 0) = false := by simpa using hne
      have ko3 : Once T (seenR L c u o.a n2).2 c u n2 := by
        rcases heq with e | e
        · rw [e]; exact ko2
        · rw [e]; exact ko2.left
      generalize seenR L c u o.a n2 = E at *
      refine awpL_restE (by simp [go_sem]; exact ⟨rfl, rfl⟩) ?_; try dsimp only [thn, inBlk]
      (repeat' first
        | refine AWP.seq ?_
        | refine AWP.block ?_
        | (refine AWP.skip ?_; try dsimp only [thn, inBlk])
        | (refine AWP.exit ?_; try simp only [thn, inBlk, if_true])
        | (refine AWP.ret ?_; try dsimp only [thn, inBlk])
        | (refine AWP.condT ?_ ?_; (focus (simp [go_sem, hne']; done)))
        | (refine AWP.condF ?_ ?_; (focus (simp [go_sem, hne']; done)))
        | (apply AWP.rE; (focus (simp [go_sem, hne']; exact ⟨rfl, rfl⟩)); try dsimp only [thn, inBlk])
        | fail)
      refine AWP.callE (by simp [go_sem]; exact ⟨rfl, rfl, rfl, rfl, rfl⟩) (by kernel_rfl) ?_
      refine (len_calls k5).mono ?_
      rintro r h6 ⟨rfl, rfl⟩
      refine awpL_restE (by simp [go_sem]; exact ⟨rfl, rfl⟩) ?_; try dsimp only [thn, inBlk]
      (repeat' first
        | refine AWP.seq ?_
        | refine AWP.block ?_
        | (refine AWP.skip ?_; try dsimp only [thn, inBlk])
        | (refine AWP.exit ?_; try simp only [thn, inBlk, if_true])
        | (refine AWP.ret ?_; try dsimp only [thn, inBlk])
        | (refine AWP.condT ?_ ?_; (focus (simp [go_sem, fin16, wj]; done)))
        | (refine AWP.condF ?_ ?_; (focus (simp [go_sem, fin16, wj]; done)))
        | (apply AWP.rE; (focus (simp [go_sem, fin16, wj]; exact ⟨rfl, rfl⟩)); try dsimp only [thn, inBlk])
        | fail)
      refine ⟨l.length - (j + 1), by omega, j + 1, E.2, T, c, u, n2, by omega, rfl, by simp [go_sem], kc1, ko3, hi2, ?_⟩
      (refine Own.sbl ?_ (k5); repeat' first | exact Sbl.nil _ | with_reducible exact Sbl.rfl _ | (apply Sbl.cons) | (apply Sbl.skip) | with_reducible exact Fnd.head _ _ | (apply Fnd.tail))
    · have hno : o.a ∉ T := ko2.no q2 q3 q4
      have ko3 := ko2.take hao q1 q2 q3 q4
      rw [heq] at k5 kc1 fin16 ⊢
      simp only at k5 kc1 fin16 ⊢
      have fin17 : ¬ ((16 : Int) < ((left L n2).length : Int) + 1) := by rw [List.length_append, List.length_singleton] at fin16; omega
      have hg : ∀ p ∈ T.map (fun a => (a, ())), p.1.Ok := fun p hp => by
        obtain ⟨x, hxx, rfl⟩ := List.mem_map.1 hp
        exact ko.ok x hxx
      have hnd : ((T.map fun a => (a, ())).map (·.1)).Nodup := by
        rw [List.map_map]; simpa [Function.comp_def] using ko.nd
      have hmiss : ∀ p ∈ T.map (fun a => (a, ())), p.1 ≠ o.a := fun p hp e => by
        obtain ⟨x, hxx, rfl⟩ := List.mem_map.1 hp
        exact hno (e ▸ hxx)
      have f1 := k5.b2.map_miss auEnc (P := Try.prog) (t := 44) Try.underlying44 tz4 rfl (x := o.a) hao hg hnd hmiss false
      simp only [Bool.false_eq_true, if_false] at f1
      obtain ⟨h6, e6, _, k6⟩ := k5.b2.map_put auEnc (P := Try.prog) (t := 44) Try.underlying44 (x := o.a) (v := ()) hao hg hnd hmiss
      have eT : (T ++ [o.a]).map (fun a => (a, ())) = T.map (fun a => (a, ())) ++ [(o.a, ())] := by simp
      rw [← eT] at k6
      have t11 := k6.b2.obj
      refine awpL_restE (by simp [go_sem]; exact ⟨rfl, rfl⟩) ?_; try dsimp only [thn, inBlk]
      (repeat' first
        | refine AWP.seq ?_
        | refine AWP.block ?_
        | (refine AWP.skip ?_; try dsimp only [thn, inBlk])
        | (refine AWP.exit ?_; try simp only [thn, inBlk, if_true])
        | (refine AWP.ret ?_; try dsimp only [thn, inBlk])
        | (refine AWP.condT ?_ ?_; (focus (simp [go_sem, t9, hau, hkl, f1, e6]; done)))
        | (refine AWP.condF ?_ ?_; (focus (simp [go_sem, t9, hau, hkl, f1, e6]; done)))
        | (apply AWP.rE; (focus (simp [go_sem, t9, hau, hkl, f1, e6]; exact ⟨rfl, rfl⟩)); try dsimp only [thn, inBlk])
        | fail)
      refine AWP.callE (by simp [go_sem]; exact ⟨rfl, rfl, rfl, rfl, rfl⟩) (by kernel_rfl) ?_
      refine (len_calls k6.b1).mono ?_
      rintro r h7 ⟨rfl, rfl⟩
      refine awpL_restE (by simp [go_sem]; exact ⟨rfl, rfl⟩) ?_; try dsimp only [thn, inBlk]
      (repeat' first
        | refine AWP.seq ?_
        | refine AWP.block ?_
        | (refine AWP.skip ?_; try dsimp only [thn, inBlk])
        | (refine AWP.exit ?_; try simp only [thn, inBlk, if_true])
        | (refine AWP.ret ?_; try dsimp only [thn, inBlk])
        | (refine AWP.condT ?_ ?_; (focus (simp [go_sem, fin17, wj]; done)))
        | (refine AWP.condF ?_ ?_; (focus (simp [go_sem, fin17, wj]; done)))
        | (apply AWP.rE; (focus (simp [go_sem, fin17, wj]; exact ⟨rfl, rfl⟩)); try dsimp only [thn, inBlk])
        | fail)
      refine ⟨l.length - (j + 1), by omega, j + 1, left L n2 ++ [o.a], T ++ [o.a], c, u, n2, by omega, rfl, by simp [go_sem], kc1, ko3, hi2, ?_⟩
      (refine Own.sbl ?_ (k6); repeat' first | exact Sbl.nil _ | with_reducible exact Sbl.rfl _ | (apply Sbl.cons) | (apply Sbl.skip) | with_reducible exact Fnd.head _ _ | (apply Fnd.tail))
end L12
