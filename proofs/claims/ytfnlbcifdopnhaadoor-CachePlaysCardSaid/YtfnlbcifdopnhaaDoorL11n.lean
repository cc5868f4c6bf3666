import Derived.Test.YtfnlbcifdopnhaaDoorL11m
open Go Ab Go.Proofs
namespace L11
set_option autoImplicit false
set_option linter.unusedSimpArgs false
set_option linter.unusedVariables false

/-! ### The ticket that was put last -/
theorem get_of_mem {L : CL} (h : (L.map (·.1)).Nodup) {x : List UInt8 × Cr} (hx : x ∈ L) : get L x.1 = some x.2 := by
  cases hg : get L x.1 with
  | none => exact absurd rfl (get_none hg x hx)
  | some n =>
    obtain ⟨j, hj, _⟩ := get_some hg
    have := inj_of_nodup (f := fun y : List UInt8 × Cr => y.1) h (List.mem_of_getElem? hj) hx rfl
    rw [← this]
theorem get_put {L : CL} {c x : Cr} {now : Int} {n : List UInt8} (hI : CI L) (he : c.g.sv.length ≤ 1000000) (ht : c.tk.length ≤ 1000000) (hg : get (putR L c now).2 n = some x) :
    ((putR L c now).1 = 0 ∧ c.g.sv = n ∧ x = c) ∨ (get L n = some x ∧ ¬ ((putR L c now).1 = 0 ∧ c.g.sv = n)) := by
  have hI2 := hI.put (e := c) (now := now) he ht
  have hm := get_mem hg
  have keep : (n, x) ∈ keepL L now → get L n = some x := fun hm => get_of_mem hI.nd (List.mem_filter.1 hm).1
  unfold putR at hg hm hI2 ⊢
  split
  · rename_i h1
    rw [if_pos h1] at hg
    exact .inr ⟨hg, fun q => by have := q.1; simp at this⟩
  rename_i h1
  rw [if_neg h1] at hg hm hI2
  split
  · rename_i h2
    rw [if_pos h2] at hg
    exact .inr ⟨hg, fun q => by have := q.1; simp at this⟩
  rename_i h2
  rw [if_neg h2] at hg hm hI2
  split
  · rename_i h3
    rw [if_pos h3] at hm
    exact .inr ⟨keep hm, fun q => by have := q.1; simp at this⟩
  rename_i h3
  rw [if_neg h3] at hg hm hI2
  dsimp only at hg hm hI2 ⊢
  by_cases hs : c.g.sv = n
  · left
    refine ⟨rfl, hs, ?_⟩
    have hin : (n, c) ∈ setC (keepL L now) c := by
      rw [← hs]
      cases hq : get (keepL L now) c.g.sv with
      | none => rw [set_none hq]; simp
      | some e0 =>
        obtain ⟨j, hj, e1⟩ := set_some hq
        rw [e1]
        exact List.mem_of_getElem? (i := j) (by rw [List.getElem?_set_self (List.getElem?_eq_some_iff.1 hj).1])
    have := get_of_mem hI2.nd hin
    rw [hg] at this
    exact Option.some.inj this
  · right
    refine ⟨?_, fun q => hs q.2⟩
    rcases mem_setC hm with e | hm
    · exact absurd (congrArg Prod.fst e).symm hs
    · exact keep hm
set_option maxHeartbeats 16000000 in
theorem fresh_calls {h : AHeap} {w : Value} {s1 : List Op} {sv : List UInt8} {now : Int} (hb : h.base = h.next) (hp : Script h w s1) (hn1 : s1.length ≤ 9223372036854775807) (hwo : ∀ o ∈ s1, o.c.g.Wf) :
    ACalls Tryd.prog 3 #[w, tx sv, .int .i64 now] h fun r _ => r = .bool true := by
  refine Own.of_wf fun k0 => ?_
  obtain ⟨va, vc, rfl⟩ := hp.val
  refine ACalls.of_awp (args := [.slice va s1.length vc, tx sv, .int .i64 now]) (n := 81) Tryd.func3 rfl rfl (by show 3 ≤ 81; omega) ?_
  (repeat' first
    | refine AWP.seq ?_
    | refine AWP.block ?_
    | (refine AWP.skip ?_; try dsimp only [thn, inBlk])
    | (refine AWP.exit ?_; try simp only [thn, inBlk, if_true, reduceIte, Nat.reduceEqDiff])
    | (refine AWP.ret ?_; try dsimp only [thn, inBlk])
    | (refine AWP.condT ?_ ?_; (focus (simp [go_sem]; done)))
    | (refine AWP.condF ?_ ?_; (focus (simp [go_sem]; done)))
    | (apply AWP.rE; (focus (simp [go_sem]; exact ⟨rfl, rfl⟩)); try dsimp only [thn, inBlk])
    | fail)
  refine AWP.callE (by simp [go_sem]; exact ⟨rfl, rfl, rfl, rfl, rfl⟩) (by kernel_rfl) ?_
  refine (speaks_calls k0).mono ?_
  rintro r h1 ⟨rfl, k1⟩
  refine awpL_restE (by simp [go_sem]; exact ⟨rfl, rfl⟩) ?_; try dsimp only [thn, inBlk]
  (repeat' first
    | refine AWP.seq ?_
    | refine AWP.block ?_
    | (refine AWP.skip ?_; try dsimp only [thn, inBlk])
    | (refine AWP.exit ?_; try simp only [thn, inBlk, if_true, reduceIte, Nat.reduceEqDiff])
    | (refine AWP.ret ?_; try dsimp only [thn, inBlk])
    | (refine AWP.condT ?_ ?_; (focus (simp [go_sem]; done)))
    | (refine AWP.condF ?_ ?_; (focus (simp [go_sem]; done)))
    | (apply AWP.rE; (focus (simp [go_sem]; exact ⟨rfl, rfl⟩)); try dsimp only [thn, inBlk])
    | fail)
  refine AWP.callE (by simp [go_sem]; exact ⟨rfl, rfl, rfl, rfl, rfl⟩) (by kernel_rfl) ?_
  refine (great_calls k1 (fun hh kk => hp.of_old hb kk) hn1).mono ?_
  rintro r h2 ⟨b1, rfl, g1, k2⟩
  cases b1
  rotate_left
  · refine awpL_restE (by simp [go_sem]; exact ⟨rfl, rfl⟩) ?_; try dsimp only [thn, inBlk]
    (repeat' first
      | refine AWP.seq ?_
      | refine AWP.block ?_
      | (refine AWP.skip ?_; try dsimp only [thn, inBlk])
      | (refine AWP.exit ?_; try simp only [thn, inBlk, if_true, reduceIte, Nat.reduceEqDiff])
      | (refine AWP.ret ?_; try dsimp only [thn, inBlk])
      | (refine AWP.condT ?_ ?_; (focus (simp [go_sem]; done)))
      | (refine AWP.condF ?_ ?_; (focus (simp [go_sem]; done)))
      | (apply AWP.rE; (focus (simp [go_sem]; exact ⟨rfl, rfl⟩)); try dsimp only [thn, inBlk])
      | fail)
    simp [bodyQ, thn, inBlk, resA, resV, go_sem]
  obtain ⟨l1, o1⟩ := g1 rfl
  by_cases hsl : 100 < sv.length
  · have hsl' : (100 : Int) < sv.length := by omega
    refine awpL_restE (by simp [go_sem, hsl']; exact ⟨rfl, rfl⟩) ?_; try dsimp only [thn, inBlk]
    (repeat' first
      | refine AWP.seq ?_
      | refine AWP.block ?_
      | (refine AWP.skip ?_; try dsimp only [thn, inBlk])
      | (refine AWP.exit ?_; try simp only [thn, inBlk, if_true, reduceIte, Nat.reduceEqDiff])
      | (refine AWP.ret ?_; try dsimp only [thn, inBlk])
      | (refine AWP.condT ?_ ?_; (focus (simp [go_sem]; done)))
      | (refine AWP.condF ?_ ?_; (focus (simp [go_sem]; done)))
      | (apply AWP.rE; (focus (simp [go_sem]; exact ⟨rfl, rfl⟩)); try dsimp only [thn, inBlk])
      | fail)
    simp [bodyQ, thn, inBlk, resA, resV, go_sem]
  have hsl' : ¬ (100 : Int) < sv.length := by omega
  refine awpL_restE (by simp [go_sem, hsl']; exact ⟨rfl, rfl⟩) ?_; try dsimp only [thn, inBlk]
  (repeat' first
    | refine AWP.seq ?_
    | refine AWP.block ?_
    | (refine AWP.skip ?_; try dsimp only [thn, inBlk])
    | (refine AWP.exit ?_; try simp only [thn, inBlk, if_true, reduceIte, Nat.reduceEqDiff])
    | (refine AWP.ret ?_; try dsimp only [thn, inBlk])
    | (refine AWP.condT ?_ ?_; (focus (simp [go_sem]; done)))
    | (refine AWP.condF ?_ ?_; (focus (simp [go_sem]; done)))
    | (apply AWP.rE; (focus (simp [go_sem]; exact ⟨rfl, rfl⟩)); try dsimp only [thn, inBlk])
    | fail)
  refine AWP.callE (by simp [go_sem]; exact ⟨rfl, rfl, rfl, rfl, rfl⟩) (by kernel_rfl) ?_
  refine (new_calls k2).mono ?_
  rintro r h4 ⟨i, rfl, k4⟩
  have k5 := (k4.push (.row (cr zC zP) 34 23 true false))
  refine awpL_restE (by simp [go_sem]; exact ⟨rfl, rfl⟩) ?_; try dsimp only [thn, inBlk]
  (repeat' first
    | refine AWP.seq ?_
    | refine AWP.block ?_
    | (refine AWP.skip ?_; try dsimp only [thn, inBlk])
    | (refine AWP.exit ?_; try simp only [thn, inBlk, if_true, reduceIte, Nat.reduceEqDiff])
    | (refine AWP.ret ?_; try dsimp only [thn, inBlk])
    | (refine AWP.condT ?_ ?_; (focus (simp [go_sem, ↓buildC, ↓allocC]; done)))
    | (refine AWP.condF ?_ ?_; (focus (simp [go_sem, ↓buildC, ↓allocC]; done)))
    | (apply AWP.rE; (focus (simp [go_sem, ↓buildC, ↓allocC]; exact ⟨rfl, rfl⟩)); try dsimp only [thn, inBlk])
    | fail)
  refine AWP.loopR [1, 2, 7, 8, 9, 27, 28, 29] (fun m s h' => ∃ (j : Nat) (L : CL) (any : Bool) (c : Cr) (p : Pl), j ≤ s1.length ∧ m = s1.length - j ∧ s = ⟨81, [(1, tx sv), (2, .int .i64 now), (7, ptr i), (8, ptr h4.next), (9, .bool any), (27, .slice va s1.length vc), (28, .int .i64 s1.length), (29, .int .i64 j)]⟩ ∧ CI L ∧
      (∀ x, get L sv = some x → any = true ∧ x = c) ∧ (any = true → c.g.Wf) ∧ (∀ hh Rr, Own h.asOld hh Rr → Bytes hh (tkV c p) c.tk) ∧ Own h.asOld h' [cell h4.next (.row (cr c p) 34 23 true false), csc i L]) ?_ ?_
  · exact ⟨_, 0, [], false, zC, zP, by omega, rfl, by simp [go_sem], CI.nil, by simp [get], by simp, fun hh _ _ => nil_bytes hh, k5⟩
  generalize h4.next = ib
  rintro m s hB ⟨j, L, any, c, p, hj, rfl, rfl, bi, hinv, hwf, hby, kB⟩
  by_cases hjm : j < s1.length
  · have hjm' : (j : Int) < s1.length := by omega
    have hOB := o1 _ (List.getElem_mem hjm)
    have hWo := hwo _ (List.getElem_mem hjm)
    have hBo : ∀ hh Rr, Own h.asOld hh Rr → Bytes hh (tkV s1[j].c s1[j].p) s1[j].c.tk := fun hh Rr kk => (hp.of_old hb kk).2 _ (List.getElem_mem hjm)
    obtain ⟨i0, f0, c0, q0', z0, ti0, ro0, p0, q0, m0, t0⟩ := (hp.of_old hb kB).at hjm
    generalize s1[j] = o at t0 hOB hWo hBo
    have w1 : IntKind.i64.wrap ((j : Int) + 1) = ((j + 1 : Nat) : Int) := by rw [wI64 (by omega) (by omega)]; omega
    have k6 := kB.push (.row (op o) 36 26 true false)
    have c6 := k6.obj
    have hb1 := hOB.gs
    have hb2 := hOB.tk
    have hb3 := hOB.cl
    (repeat' first
      | refine AWP.seq ?_
      | refine AWP.block ?_
      | (refine AWP.skip ?_; try dsimp only [thn, inBlk])
      | (refine AWP.exit ?_; try simp only [thn, inBlk, if_true, reduceIte, Nat.reduceEqDiff])
      | (refine AWP.ret ?_; try dsimp only [thn, inBlk])
      | (refine AWP.condT ?_ ?_; (focus (simp [go_sem, hjm', p0, q0, m0, t0, ↓allocO, c6]; done)))
      | (refine AWP.condF ?_ ?_; (focus (simp [go_sem, hjm', p0, q0, m0, t0, ↓allocO, c6]; done)))
      | (apply AWP.rE; (focus (simp [go_sem, hjm', p0, q0, m0, t0, ↓allocO, c6]; exact ⟨rfl, rfl⟩)); try dsimp only [thn, inBlk])
      | fail)
    refine AWP.callE (by simp [go_sem, c6]; exact ⟨rfl, rfl, rfl, rfl, rfl⟩) (by kernel_rfl) ?_
    refine (put_calls (c := o.c) (p := o.p) (now := o.now) bi k6.b2 (fun hh kk => hBo hh _ kk) (by omega) (by omega) (by omega) hWo.no).mono ?_
    rintro r h7 ⟨rfl, k7⟩
    have c7 := k7.b1.obj
    have hgp := fun x => get_put (x := x) (now := o.now) (n := sv) bi (c := o.c) (by omega) (by omega)
    have bi2 := bi.put (e := o.c) (now := o.now) (by omega) (by omega)
    generalize (putR L o.c o.now).2 = L2 at *
    generalize (putR L o.c o.now).1 = z at *
    by_cases hz : z = 0
    · subst hz
      by_cases hs : o.c.g.sv = sv
      · have hs' : (o.c.g.sv == sv) = true := by simpa using hs
        have c8 := k7.b2.obj
        refine awpL_restE (by simp [go_sem, c7, hs']; exact ⟨rfl, rfl⟩) ?_; try dsimp only [thn, inBlk]
        (repeat' first
          | refine AWP.seq ?_
          | refine AWP.block ?_
          | (refine AWP.skip ?_; try dsimp only [thn, inBlk])
          | (refine AWP.exit ?_; try simp only [thn, inBlk, if_true, reduceIte, Nat.reduceEqDiff])
          | (refine AWP.ret ?_; try dsimp only [thn, inBlk])
          | (refine AWP.condT ?_ ?_; (focus (simp [go_sem, c7, c8, w1]; done)))
          | (refine AWP.condF ?_ ?_; (focus (simp [go_sem, c7, c8, w1]; done)))
          | (apply AWP.rE; (focus (simp [go_sem, c7, c8, w1]; exact ⟨rfl, rfl⟩)); try dsimp only [thn, inBlk])
          | fail)
        refine ⟨s1.length - (j + 1), by omega, j + 1, L2, true, o.c, o.p, by omega, rfl, by simp [go_sem], bi2, fun x hx => ⟨rfl, ?_⟩, fun _ => hWo, hBo, ?_⟩
        · rcases hgp x hx with q | q
          · exact q.2.2
          · exact absurd ⟨rfl, hs⟩ q.2
        · exact (k7.b2.set (.row (cr o.c o.p) 34 23 true false)).d2
      · have hs' : (o.c.g.sv == sv) = false := by simpa using hs
        refine awpL_restE (by simp [go_sem, c7, hs']; exact ⟨rfl, rfl⟩) ?_; try dsimp only [thn, inBlk]
        (repeat' first
          | refine AWP.seq ?_
          | refine AWP.block ?_
          | (refine AWP.skip ?_; try dsimp only [thn, inBlk])
          | (refine AWP.exit ?_; try simp only [thn, inBlk, if_true, reduceIte, Nat.reduceEqDiff])
          | (refine AWP.ret ?_; try dsimp only [thn, inBlk])
          | (refine AWP.condT ?_ ?_; (focus (simp [go_sem, w1]; done)))
          | (refine AWP.condF ?_ ?_; (focus (simp [go_sem, w1]; done)))
          | (apply AWP.rE; (focus (simp [go_sem, w1]; exact ⟨rfl, rfl⟩)); try dsimp only [thn, inBlk])
          | fail)
        refine ⟨s1.length - (j + 1), by omega, j + 1, L2, any, c, p, by omega, rfl, by simp [go_sem], bi2, fun x hx => ?_, hwf, hby, ?_⟩
        · rcases hgp x hx with q | q
          · exact absurd q.2.1 hs
          · exact hinv x q.1
        · exact k7.b2.d2
    · have hz' : (z == 0) = false := by simpa using hz
      refine awpL_restE (by simp [go_sem, c7, hz']; exact ⟨rfl, rfl⟩) ?_; try dsimp only [thn, inBlk]
      (repeat' first
        | refine AWP.seq ?_
        | refine AWP.block ?_
        | (refine AWP.skip ?_; try dsimp only [thn, inBlk])
        | (refine AWP.exit ?_; try simp only [thn, inBlk, if_true, reduceIte, Nat.reduceEqDiff])
        | (refine AWP.ret ?_; try dsimp only [thn, inBlk])
        | (refine AWP.condT ?_ ?_; (focus (simp [go_sem, w1]; done)))
        | (refine AWP.condF ?_ ?_; (focus (simp [go_sem, w1]; done)))
        | (apply AWP.rE; (focus (simp [go_sem, w1]; exact ⟨rfl, rfl⟩)); try dsimp only [thn, inBlk])
        | fail)
      refine ⟨s1.length - (j + 1), by omega, j + 1, L2, any, c, p, by omega, rfl, by simp [go_sem], bi2, fun x hx => ?_, hwf, hby, ?_⟩
      · rcases hgp x hx with q | q
        · exact absurd q.1 hz
        · exact hinv x q.1
      · exact k7.b2.d2
  have hjm' : ¬ (j : Int) < s1.length := by omega
  (repeat' first
    | refine AWP.seq ?_
    | refine AWP.block ?_
    | (refine AWP.skip ?_; try dsimp only [thn, inBlk])
    | (refine AWP.exit ?_; try simp only [thn, inBlk, if_true, reduceIte, Nat.reduceEqDiff])
    | (refine AWP.ret ?_; try dsimp only [thn, inBlk])
    | (refine AWP.condT ?_ ?_; (focus (simp [go_sem, hjm']; done)))
    | (refine AWP.condF ?_ ?_; (focus (simp [go_sem, hjm']; done)))
    | (apply AWP.rE; (focus (simp [go_sem, hjm']; exact ⟨rfl, rfl⟩)); try dsimp only [thn, inBlk])
    | fail)
  refine AWP.callE (by simp [go_sem]; exact ⟨rfl, rfl, rfl, rfl, rfl⟩) (by kernel_rfl) ?_
  refine (find_calls (n := sv) (now := now) bi kB.b1 (by omega)).mono ?_
  rintro r h6 ⟨p6, rfl, k6⟩
  have k7 := k6.push (.row (cr (findR L sv now).1 p6) 34 23 true false)
  have c7 := k7.obj
  refine awpL_restE (by simp [go_sem, ↓allocC]; exact ⟨rfl, rfl⟩) ?_; try dsimp only [thn, inBlk]
  (repeat' first
    | refine AWP.seq ?_
    | refine AWP.block ?_
    | (refine AWP.skip ?_; try dsimp only [thn, inBlk])
    | (refine AWP.exit ?_; try simp only [thn, inBlk, if_true, reduceIte, Nat.reduceEqDiff])
    | (refine AWP.ret ?_; try dsimp only [thn, inBlk])
    | (refine AWP.condT ?_ ?_; (focus (simp [go_sem]; done)))
    | (refine AWP.condF ?_ ?_; (focus (simp [go_sem]; done)))
    | (apply AWP.rE; (focus (simp [go_sem]; exact ⟨rfl, rfl⟩)); try dsimp only [thn, inBlk])
    | fail)
  refine AWP.callE (by simp [go_sem, c7]; exact ⟨rfl, rfl, rfl, rfl, rfl⟩) (by kernel_rfl) ?_
  refine (servers_calls bi k7.b2).mono ?_
  rintro r h8 ⟨a8, c8, rfl, k8⟩
  have hmx : ((srvL L).length : Int) ≤ 8 := by rw [srvL_len]; have := bi.mx; omega
  cases hg : get L sv with
  | none =>
    have e : findR L sv now = (zC, false) := by simp [findR, hg]
    rw [e]
    refine awpL_restE (by simp [go_sem, hmx]; exact ⟨rfl, rfl⟩) ?_; try dsimp only [thn, inBlk]
    (repeat' first
      | refine AWP.seq ?_
      | refine AWP.block ?_
      | (refine AWP.skip ?_; try dsimp only [thn, inBlk])
      | (refine AWP.exit ?_; try simp only [thn, inBlk, if_true, reduceIte, Nat.reduceEqDiff])
      | (refine AWP.ret ?_; try dsimp only [thn, inBlk])
      | (refine AWP.condT ?_ ?_; (focus (simp [go_sem]; done)))
      | (refine AWP.condF ?_ ?_; (focus (simp [go_sem]; done)))
      | (apply AWP.rE; (focus (simp [go_sem]; exact ⟨rfl, rfl⟩)); try dsimp only [thn, inBlk])
      | fail)
    simp [bodyQ, thn, inBlk, resA, resV, go_sem]
  | some x =>
    obtain ⟨rfl, rfl⟩ := hinv x hg
    by_cases hd : x.g.en < now
    · have e : findR L sv now = (zC, false) := by simp [findR, hg, hd]
      rw [e]
      refine awpL_restE (by simp [go_sem, hmx]; exact ⟨rfl, rfl⟩) ?_; try dsimp only [thn, inBlk]
      (repeat' first
        | refine AWP.seq ?_
        | refine AWP.block ?_
        | (refine AWP.skip ?_; try dsimp only [thn, inBlk])
        | (refine AWP.exit ?_; try simp only [thn, inBlk, if_true, reduceIte, Nat.reduceEqDiff])
        | (refine AWP.ret ?_; try dsimp only [thn, inBlk])
        | (refine AWP.condT ?_ ?_; (focus (simp [go_sem]; done)))
        | (refine AWP.condF ?_ ?_; (focus (simp [go_sem]; done)))
        | (apply AWP.rE; (focus (simp [go_sem]; exact ⟨rfl, rfl⟩)); try dsimp only [thn, inBlk])
        | fail)
      simp [bodyQ, thn, inBlk, resA, resV, go_sem]
    · have e : findR L sv now = (x, true) := by simp [findR, hg, hd]
      rw [e] at k8 ⊢
      have d8 := k8.b2.obj
      have e8 := k8.b4.obj
      have hd' : now ≤ x.g.en := by omega
      refine awpL_toCall (by simp [go_sem, hmx, d8, e8]; exact ⟨rfl, rfl, rfl, rfl, rfl⟩) (by kernel_rfl) ?_
      refine (same_calls (c := x) (p := p6) (q := p) k8 (gr_eq (hwf rfl)) (fun hh kk => kk.b3.ob_bytes) (fun hh kk => hby hh _ kk)).mono ?_
      rintro r h9 ⟨rfl, k9⟩
      have d9 := k9.b2.obj
      refine awpL_restE (by simp [go_sem, d9, hd']; exact ⟨rfl, rfl⟩) ?_; try dsimp only [thn, inBlk]
      (repeat' first
        | refine AWP.seq ?_
        | refine AWP.block ?_
        | (refine AWP.skip ?_; try dsimp only [thn, inBlk])
        | (refine AWP.exit ?_; try simp only [thn, inBlk, if_true, reduceIte, Nat.reduceEqDiff])
        | (refine AWP.ret ?_; try dsimp only [thn, inBlk])
        | (refine AWP.condT ?_ ?_; (focus (simp [go_sem]; done)))
        | (refine AWP.condF ?_ ?_; (focus (simp [go_sem]; done)))
        | (apply AWP.rE; (focus (simp [go_sem]; exact ⟨rfl, rfl⟩)); try dsimp only [thn, inBlk])
        | fail)
      simp [bodyQ, thn, inBlk, resA, resV, go_sem]
end L11
