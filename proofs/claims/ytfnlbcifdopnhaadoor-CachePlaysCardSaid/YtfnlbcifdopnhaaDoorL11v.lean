import Derived.Test.YtfnlbcifdopnhaaDoorL11u
open Go Ab Go.Proofs
namespace L11
set_option autoImplicit false
set_option linter.unusedSimpArgs false
set_option linter.unusedVariables false

abbrev zG' : Gt := ⟨[], List.replicate 16 0, 0, 0, 0, 0⟩
unseal gr in
theorem zG_gr : gr zG = gr zG' := by kernel_rfl
theorem zG_eq : aggEqR Tryd.prog .eql 32 (grV zG) (grV zG) = some (.bool true) := by
  have : zG'.Wf := ⟨by decide, by decide, by decide, by decide, by decide, by decide⟩
  have := gr_eq this
  unfold grV at this ⊢
  rw [zG_gr]; exact this
theorem buildD : buildP Tryd.prog 50 [] = some (.agg #[.slice none 0 0]) := by kernel_rfl
/-- What is found is one of the entries, or nothing. -/
theorem findS_cases {es : List CX} {n : List UInt8} {now : Int} : findS es n now = ((zC, zP), false) ∨ ∃ x ∈ es, findS es n now = (x, true) := by
  unfold findS
  cases hf : es.find? (fun e => e.1.g.sv == n) with
  | none => exact .inl rfl
  | some x =>
    dsimp only
    by_cases hd : x.1.g.en < now
    · rw [if_pos hd]; exact .inl rfl
    · rw [if_neg hd]; exact .inr ⟨x, List.mem_of_find?_eq_some hf, rfl⟩
def OkX (h : AHeap) (x : CX) : Prop := (∀ hh Rr, Own h.asOld hh Rr → Bytes hh (tkV x.1 x.2) x.1.tk) ∧ x.1.g.Wf
set_option maxHeartbeats 32000000 in
theorem plays_calls {h : AHeap} {w : Value} {s1 : List Op} (hb : h.base = h.next) (hp : Script h w s1) (hn1 : s1.length ≤ 9223372036854775807) (hwo : ∀ o ∈ s1, o.c.g.Wf) :
    ACalls Tryd.prog 5 #[w] h fun r _ => r = .bool true := by
  refine Own.of_wf fun k0 => ?_
  obtain ⟨va, vc, rfl⟩ := hp.val
  refine ACalls.of_awp (args := [.slice va s1.length vc]) (n := 134) Tryd.func5 rfl rfl (by show 1 ≤ 134; omega) ?_
  (repeat' first
    | refine AWP.seq ?_
    | refine AWP.block ?_
    | (refine AWP.skip ?_; try dsimp only [thn, inBlk])
    | (refine AWP.exit ?_; try simp only [thn, inBlk, if_true, reduceIte, Nat.reduceEqDiff])
    | (refine AWP.ret ?_; try dsimp only [thn, inBlk])
    | (refine AWP.condT ?_ ?_; (focus (simp [go_sem]; done)))
    | (refine AWP.condF ?_ ?_; (focus (simp [go_sem]; done)))
    | (apply AWP.rE; (focus (simp [go_sem]; exact ⟨rfl, rfl⟩)); try dsimp only [thn, inBlk])
    | (apply AWP.dE hmix [.n 0 [13], .n 1 [14], .n 2 [118, 119], .n 3 [120], .n 4 [4], .n 5 [122], .n 6 [123], .n 7 [124], .n 8 [14], .n 9 [125, 126], .n 10 [127], .n 11 [128], .n 12 [129], .n 13 [121, 130]]; (focus kernel_rfl); (focus (simp [go_sem]; exact ⟨rfl, rfl⟩)); try dsimp only [thn, inBlk])
    | fail)
  refine AWP.callE (by simp [go_sem]; exact ⟨rfl, rfl, rfl, rfl, rfl⟩) (by kernel_rfl) ?_
  refine (speaks_calls k0).mono ?_
  rintro r h1 ⟨rfl, k1⟩
  refine awpL_restE (by simp [go_sem]; exact ⟨rfl, rfl⟩) ?_; try dsimp only [thn, inBlk]
  (repeat' first
    | refine AWP.seq ?_
    | refine AWP.block ?_
    | (refine AWP.skip ?_; try dsimp only [thn, inBlk])
    | (refine AWP.exit ?_; try simp only [thn, inBlk, if_true, reduceIte, Nat.reduceEqDiff])
    | (refine AWP.ret ?_; try dsimp only [thn, inBlk])
    | (refine AWP.condT ?_ ?_; (focus (simp [go_sem]; done)))
    | (refine AWP.condF ?_ ?_; (focus (simp [go_sem]; done)))
    | (apply AWP.rE; (focus (simp [go_sem]; exact ⟨rfl, rfl⟩)); try dsimp only [thn, inBlk])
    | (apply AWP.dE hmix [.n 0 [13], .n 1 [14], .n 2 [118, 119], .n 3 [120], .n 4 [4], .n 5 [122], .n 6 [123], .n 7 [124], .n 8 [14], .n 9 [125, 126], .n 10 [127], .n 11 [128], .n 12 [129], .n 13 [121, 130]]; (focus kernel_rfl); (focus (simp [go_sem]; exact ⟨rfl, rfl⟩)); try dsimp only [thn, inBlk])
    | fail)
  refine AWP.callE (by simp [go_sem]; exact ⟨rfl, rfl, rfl, rfl, rfl⟩) (by kernel_rfl) ?_
  refine (great_calls k1 (fun hh kk => hp.of_old hb kk) hn1).mono ?_
  rintro r h2 ⟨b1, rfl, g1, k2⟩
  cases b1
  rotate_left
  · refine awpL_restE (by simp [go_sem]; exact ⟨rfl, rfl⟩) ?_; try dsimp only [thn, inBlk]
    (repeat' first
      | refine AWP.seq ?_
      | refine AWP.block ?_
      | (refine AWP.skip ?_; try dsimp only [thn, inBlk])
      | (refine AWP.exit ?_; try simp only [thn, inBlk, if_true, reduceIte, Nat.reduceEqDiff])
      | (refine AWP.ret ?_; try dsimp only [thn, inBlk])
      | (refine AWP.condT ?_ ?_; (focus (simp [go_sem]; done)))
      | (refine AWP.condF ?_ ?_; (focus (simp [go_sem]; done)))
      | (apply AWP.rE; (focus (simp [go_sem]; exact ⟨rfl, rfl⟩)); try dsimp only [thn, inBlk])
      | (apply AWP.dE hmix [.n 0 [13], .n 1 [14], .n 2 [118, 119], .n 3 [120], .n 4 [4], .n 5 [122], .n 6 [123], .n 7 [124], .n 8 [14], .n 9 [125, 126], .n 10 [127], .n 11 [128], .n 12 [129], .n 13 [121, 130]]; (focus kernel_rfl); (focus (simp [go_sem]; exact ⟨rfl, rfl⟩)); try dsimp only [thn, inBlk])
      | fail)
    simp [bodyQ, thn, inBlk, resA, resV, go_sem]
  obtain ⟨l1, o1⟩ := g1 rfl
  refine awpL_restE (by simp [go_sem]; exact ⟨rfl, rfl⟩) ?_; try dsimp only [thn, inBlk]
  (repeat' first
    | refine AWP.seq ?_
    | refine AWP.block ?_
    | (refine AWP.skip ?_; try dsimp only [thn, inBlk])
    | (refine AWP.exit ?_; try simp only [thn, inBlk, if_true, reduceIte, Nat.reduceEqDiff])
    | (refine AWP.ret ?_; try dsimp only [thn, inBlk])
    | (refine AWP.condT ?_ ?_; (focus (simp [go_sem]; done)))
    | (refine AWP.condF ?_ ?_; (focus (simp [go_sem]; done)))
    | (apply AWP.rE; (focus (simp [go_sem]; exact ⟨rfl, rfl⟩)); try dsimp only [thn, inBlk])
    | (apply AWP.dE hmix [.n 0 [13], .n 1 [14], .n 2 [118, 119], .n 3 [120], .n 4 [4], .n 5 [122], .n 6 [123], .n 7 [124], .n 8 [14], .n 9 [125, 126], .n 10 [127], .n 11 [128], .n 12 [129], .n 13 [121, 130]]; (focus kernel_rfl); (focus (simp [go_sem]; exact ⟨rfl, rfl⟩)); try dsimp only [thn, inBlk])
    | fail)
  refine AWP.callE (by simp [go_sem]; exact ⟨rfl, rfl, rfl, rfl, rfl⟩) (by kernel_rfl) ?_
  refine (new_calls k2).mono ?_
  rintro r h4 ⟨i, rfl, k4⟩
  have k5 : Own h.asOld (h4.push (rrow (.slice none 0 0))) (cell h4.next (rrow (.slice none 0 0)) :: csc i [] :: []) := k4.push _
  have k5' : Own h.asOld (h4.push (rrow (.slice none 0 0))) [csc i [], rcs h4.next []] := by
    have := (k5.nil 34 23)
    have k7 : Own h.asOld (h4.push (rrow (.slice none 0 0))) (rcs h4.next [] :: csc i [] :: []) := rcs_iff.2 ⟨_, this.b1⟩
    exact k7.b1
  refine awpL_restE (by simp [go_sem, buildD]; exact ⟨rfl, rfl⟩) ?_; try dsimp only [thn, inBlk]
  (repeat' first
    | refine AWP.seq ?_
    | refine AWP.block ?_
    | (refine AWP.skip ?_; try dsimp only [thn, inBlk])
    | (refine AWP.exit ?_; try simp only [thn, inBlk, if_true, reduceIte, Nat.reduceEqDiff])
    | (refine AWP.ret ?_; try dsimp only [thn, inBlk])
    | (refine AWP.condT ?_ ?_; (focus (simp [go_sem]; done)))
    | (refine AWP.condF ?_ ?_; (focus (simp [go_sem]; done)))
    | (apply AWP.rE; (focus (simp [go_sem]; exact ⟨rfl, rfl⟩)); try dsimp only [thn, inBlk])
    | (apply AWP.dE hmix [.n 0 [13], .n 1 [14], .n 2 [118, 119], .n 3 [120], .n 4 [4], .n 5 [122], .n 6 [123], .n 7 [124], .n 8 [14], .n 9 [125, 126], .n 10 [127], .n 11 [128], .n 12 [129], .n 13 [121, 130]]; (focus kernel_rfl); (focus (simp [go_sem]; exact ⟨rfl, rfl⟩)); try dsimp only [thn, inBlk])
    | fail)
  refine AWP.loopR [3, 4, 24, 25, 26] (fun m s h' => ∃ (j : Nat) (L : CL) (es : List CX), j ≤ s1.length ∧ m = s1.length - j ∧ s = ⟨134, [(3, ptr i), (4, ptr h4.next), (24, .slice va s1.length vc), (25, .int .i64 s1.length), (26, .int .i64 j)]⟩ ∧ CI L ∧ RS L es ∧ (∀ e ∈ es, OkX h e) ∧ Own h.asOld h' [csc i L, rcs h4.next es]) ?_ ?_
  · exact ⟨_, 0, [], [], by omega, rfl, rfl, CI.nil, RS.nil, by simp, k5'⟩
  generalize h4.next = ib
  rintro m s hB ⟨j, L, es, hj, rfl, rfl, bi, rs, hw, kB⟩
  by_cases hjm : j < s1.length
  rotate_left
  · have hjm' : ¬ (j : Int) < s1.length := by omega
    (repeat' first
      | refine AWP.seq ?_
      | refine AWP.block ?_
      | (refine AWP.skip ?_; try dsimp only [thn, inBlk])
      | (refine AWP.exit ?_; try simp only [thn, inBlk, if_true, reduceIte, Nat.reduceEqDiff])
      | (refine AWP.ret ?_; try dsimp only [thn, inBlk])
      | (refine AWP.condT ?_ ?_; (focus (simp [go_sem, hjm']; done)))
      | (refine AWP.condF ?_ ?_; (focus (simp [go_sem, hjm']; done)))
      | (apply AWP.rE; (focus (simp [go_sem, hjm']; exact ⟨rfl, rfl⟩)); try dsimp only [thn, inBlk])
      | (apply AWP.dE hmix [.n 0 [13], .n 1 [14], .n 2 [118, 119], .n 3 [120], .n 4 [4], .n 5 [122], .n 6 [123], .n 7 [124], .n 8 [14], .n 9 [125, 126], .n 10 [127], .n 11 [128], .n 12 [129], .n 13 [121, 130]]; (focus kernel_rfl); (focus (simp [go_sem, hjm']; exact ⟨rfl, rfl⟩)); try dsimp only [thn, inBlk])
      | fail)
    simp [bodyQ, thn, inBlk, resA, resV, go_sem]
  have hjm' : (j : Int) < s1.length := by omega
  have hOB := o1 _ (List.getElem_mem hjm)
  have hOk : OkX h (s1[j].c, s1[j].p) := ⟨fun hh Rr kk => (hp.of_old hb kk).2 _ (List.getElem_mem hjm), hwo _ (List.getElem_mem hjm)⟩
  obtain ⟨i0, f0, c0, q0', z0, ti0, ro0, p0, q0, m0, t0⟩ := (hp.of_old hb kB).at hjm
  generalize s1[j] = o at t0 hOB hOk
  have w1 : IntKind.i64.wrap ((j : Int) + 1) = ((j + 1 : Nat) : Int) := by rw [wI64 (by omega) (by omega)]; omega
  have k6 := kB.push (.row (op o) 36 26 true false)
  have c6 := k6.obj
  obtain ⟨K, hK1, wK⟩ := and_mask o.k 3 (by omega)
  (repeat' first
    | refine AWP.seq ?_
    | refine AWP.block ?_
    | (refine AWP.skip ?_; try dsimp only [thn, inBlk])
    | (refine AWP.exit ?_; try simp only [thn, inBlk, if_true, reduceIte, Nat.reduceEqDiff])
    | (refine AWP.ret ?_; try dsimp only [thn, inBlk])
    | (refine AWP.condT ?_ ?_; (focus (simp [go_sem, hjm', p0, q0, m0, t0, ↓allocO, c6, wK]; done)))
    | (refine AWP.condF ?_ ?_; (focus (simp [go_sem, hjm', p0, q0, m0, t0, ↓allocO, c6, wK]; done)))
    | (apply AWP.rE; (focus (simp [go_sem, hjm', p0, q0, m0, t0, ↓allocO, c6, wK]; exact ⟨rfl, rfl⟩)); try dsimp only [thn, inBlk])
    | (apply AWP.dE hmix [.n 0 [13], .n 1 [14], .n 2 [118, 119], .n 3 [120], .n 4 [4], .n 5 [122], .n 6 [123], .n 7 [124], .n 8 [14], .n 9 [125, 126], .n 10 [127], .n 11 [128], .n 12 [129], .n 13 [121, 130]]; (focus kernel_rfl); (focus (simp [go_sem, hjm', p0, q0, m0, t0, ↓allocO, c6, wK]; exact ⟨rfl, rfl⟩)); try dsimp only [thn, inBlk])
    | fail)
  generalize hB.push (.row (op o) 36 26 true false) = hC at k6 c6 ⊢
  generalize hB.next = io at k6 c6 ⊢
  have hBo : ∀ hh Rr, Own h.asOld hh Rr → Bytes hh (tkV o.c o.p) o.c.tk := hOk.1
  have hWo : o.c.g.Wf := hOk.2
  have hb1 := hOB.gs
  have hb2 := hOB.tk
  have hb3 := hOB.cl
  have hb4 := hOB.sv
  have hes : es.length ≤ 8 := by rw [rs.len bi]; exact bi.mx
  refine AWP.cutT [3, 4, 6, 24, 25, 26] (fun s h' => ∃ (L : CL) (es : List CX), s = ⟨134, [(3, ptr i), (4, ptr ib), (6, ptr io), (24, .slice va s1.length vc), (25, .int .i64 s1.length), (26, .int .i64 j)]⟩ ∧ CI L ∧ RS L es ∧ (∀ e ∈ es, OkX h e) ∧ Own h.asOld h' [cell io (.row (op o) 36 26 true false), csc i L, rcs ib es]) ?_ ?_
  · by_cases hK : K = 0
    · subst hK
      refine AWP.condT (by simp [go_sem]) ?_
      (repeat' first
        | refine AWP.seq ?_
        | refine AWP.block ?_
        | (refine AWP.skip ?_; try dsimp only [thn, inBlk])
        | (refine AWP.exit ?_; try simp only [thn, inBlk, if_true, reduceIte, Nat.reduceEqDiff])
        | (refine AWP.ret ?_; try dsimp only [thn, inBlk])
        | (refine AWP.condT ?_ ?_; (focus (simp [go_sem]; done)))
        | (refine AWP.condF ?_ ?_; (focus (simp [go_sem]; done)))
        | (apply AWP.rE; (focus (simp [go_sem]; exact ⟨rfl, rfl⟩)); try dsimp only [thn, inBlk])
        | (apply AWP.dE hmix [.n 0 [13], .n 1 [14], .n 2 [118, 119], .n 3 [120], .n 4 [4], .n 5 [122], .n 6 [123], .n 7 [124], .n 8 [14], .n 9 [125, 126], .n 10 [127], .n 11 [128], .n 12 [129], .n 13 [121, 130]]; (focus kernel_rfl); (focus (simp [go_sem]; exact ⟨rfl, rfl⟩)); try dsimp only [thn, inBlk])
        | fail)
      refine AWP.draw hmix [.n 0 [3], .n 1 [6], .n 2 [35], .n 4 [4], .n 5 [6], .n 6 [39], .w 3 [34, 36] [6], .w 7 [38, 40] [], .n 8 [37, 41]] (by kernel_rfl) ?_
      refine awpD_callR 6 (by rfl) (by rfl) (by simp [go_sem, c6]; exact ⟨rfl, rfl, rfl⟩) (by rfl) (by rfl) (by simp [go_sem]) (by simp [go_sem, c6]; exact ⟨rfl, rfl⟩) (by kernel_rfl) ?_
      refine (drop_calls (n := o.sv) bi k6.b1 (by omega)).mono ?_
      rintro r h7 ⟨rfl, k7⟩
      have c7 := k7.b1.obj
      refine ⟨by simp [still, go_sem, c6, c7], ?_⟩
      refine awpD_callR 0 (by rfl) (by rfl) (by simp [go_sem, c7]; exact ⟨rfl, rfl, rfl⟩) (by rfl) (by rfl) (by simp [go_sem]) (by simp [go_sem, c7]; exact ⟨rfl, rfl⟩) (by kernel_rfl) ?_
      refine (rdrop_calls (n := o.sv) k7.b2 (by omega)).mono ?_
      rintro r h8 ⟨rfl, k8⟩
      refine ⟨by simp [still, go_sem], ?_⟩
      rw [rs.isS bi]
      refine awpD_restR (by rfl) (by simp [go_sem]; exact ⟨rfl, rfl, rfl⟩) ?_; try dsimp only [thn, inBlk]
      (repeat' first
        | refine AWP.seq ?_
        | refine AWP.block ?_
        | (refine AWP.skip ?_; try dsimp only [thn, inBlk])
        | (refine AWP.exit ?_; try simp only [thn, inBlk, if_true, reduceIte, Nat.reduceEqDiff])
        | (refine AWP.ret ?_; try dsimp only [thn, inBlk])
        | (refine AWP.condT ?_ ?_; (focus (simp [go_sem]; done)))
        | (refine AWP.condF ?_ ?_; (focus (simp [go_sem]; done)))
        | (apply AWP.rE; (focus (simp [go_sem]; exact ⟨rfl, rfl⟩)); try dsimp only [thn, inBlk])
        | (apply AWP.dE hmix [.n 0 [13], .n 1 [14], .n 2 [118, 119], .n 3 [120], .n 4 [4], .n 5 [122], .n 6 [123], .n 7 [124], .n 8 [14], .n 9 [125, 126], .n 10 [127], .n 11 [128], .n 12 [129], .n 13 [121, 130]]; (focus kernel_rfl); (focus (simp [go_sem]; exact ⟨rfl, rfl⟩)); try dsimp only [thn, inBlk])
        | fail)
      exact ⟨_, _, by simp [go_sem], bi.drop _, rs.dropE bi _, fun e he => hw e (mem_dropS he), k8.b1.b2⟩
    · refine AWP.condF (by simp [go_sem, hK]) ?_
      have k7 := k6.push (.row (cr o.c o.p) 34 23 true false)
      have c7 := k7.obj
      have c7' := k7.b1.obj
      obtain ⟨a8, n8, h8, e8, k8⟩ := k7.copy (P := Tryd.prog) (t := 27) (xt := 27) (xv := tkV o.c o.p) (xs := o.c.tk) (i := hC.next + 1) Tryd.underlying27 tsz5 tby5 tz5 nI27 (fun hh kk => hBo hh _ kk) (by omega) rfl
      have c8 := k8.b1.obj
      have k9 := k8.b1.set (.row (cr o.c (a8, n8)) 34 23 true false)
      have c9 := k9.obj
      have c9' := k9.b2.obj
      have c7'' := (k7.push (.row [] 5 1 true false)).b2.obj
      (repeat' first
        | refine AWP.seq ?_
        | refine AWP.block ?_
        | (refine AWP.skip ?_; try dsimp only [thn, inBlk])
        | (refine AWP.exit ?_; try simp only [thn, inBlk, if_true, reduceIte, Nat.reduceEqDiff])
        | (refine AWP.ret ?_; try dsimp only [thn, inBlk])
        | (refine AWP.condT ?_ ?_; (focus (simp [go_sem, c6, ↓allocC, c7, c7', c7'', e8, c8]; done)))
        | (refine AWP.condF ?_ ?_; (focus (simp [go_sem, c6, ↓allocC, c7, c7', c7'', e8, c8]; done)))
        | (apply AWP.rE; (focus (simp [go_sem, c6, ↓allocC, c7, c7', c7'', e8, c8]; exact ⟨rfl, rfl⟩)); try dsimp only [thn, inBlk])
        | (apply AWP.dE hmix [.n 0 [13], .n 1 [14], .n 2 [118, 119], .n 3 [120], .n 4 [4], .n 5 [122], .n 6 [123], .n 7 [124], .n 8 [14], .n 9 [125, 126], .n 10 [127], .n 11 [128], .n 12 [129], .n 13 [121, 130]]; (focus kernel_rfl); (focus (simp [go_sem, c6, ↓allocC, c7, c7', c7'', e8, c8]; exact ⟨rfl, rfl⟩)); try dsimp only [thn, inBlk])
        | fail)
      generalize hE : h8.set hC.next (.row (cr o.c (a8, n8)) 34 23 true false) = h9 at *
      generalize hC.next = it at *
      refine AWP.draw hmix [.n 0 [3], .n 1 [7], .n 2 [6], .n 3 [53], .n 5 [4], .n 6 [6], .n 7 [57], .n 8 [6], .n 9 [59], .w 4 [51, 52, 54] [7, 9], .w 10 [56, 58, 60] [], .n 11 [55, 61]] (by kernel_rfl) ?_
      refine awpD_callR 9 (by rfl) (by rfl) (by simp [go_sem, c9, c9']; exact ⟨rfl, rfl, rfl⟩) (by rfl) (by rfl) (by simp [go_sem]) (by simp [go_sem, c9, c9']; exact ⟨rfl, rfl⟩) (by kernel_rfl) ?_
      refine (put_calls (c := o.c) (p := (a8, n8)) (now := o.now) bi k9.b3 (fun hh kk => kk.b1.ob_bytes) (by omega) (by omega) (by omega) hWo.no).mono ?_
      rintro r h10 ⟨rfl, k10⟩
      have c10 := k10.b1.obj
      have d10 := k10.b3.obj
      refine ⟨by simp [still, go_sem, c9, c9', c10, d10], ?_⟩
      refine awpD_callR 0 (by rfl) (by rfl) (by simp [go_sem, c10, d10]; exact ⟨rfl, rfl, rfl⟩) (by rfl) (by rfl) (by simp [go_sem]) (by simp [go_sem, c10, d10]; exact ⟨rfl, rfl⟩) (by kernel_rfl) ?_
      refine (rput_calls (e := (o.c, o.p)) (now := o.now) k10.b4 (by omega) (by show o.c.cl.length ≤ _; omega) (by show o.c.g.sv.length ≤ _; omega)).mono ?_
      rintro r h11 ⟨z, es', rfl, hps, k11⟩
      refine ⟨by simp [still, go_sem, c10, d10], ?_⟩
      obtain ⟨pe, pr⟩ := rs.putE bi hps
      have bi2 := bi.put (e := o.c) (now := o.now) (by omega) (by omega)
      have hw2 : ∀ e ∈ es', OkX h e := fun e he => by
        rcases mem_putS hps he with rfl | he
        · exact hOk
        · exact hw e he
      dsimp only at pe pr
      rw [pe]
      generalize (putR L o.c o.now).2 = L2 at *
      generalize (putR L o.c o.now).1 = z1 at *
      have c11 := k11.b2.obj
      refine awpD_restR (by rfl) (by simp [go_sem]; exact ⟨rfl, rfl, rfl⟩) ?_; try dsimp only [thn, inBlk]
      (repeat' first
        | refine AWP.seq ?_
        | refine AWP.block ?_
        | (refine AWP.skip ?_; try dsimp only [thn, inBlk])
        | (refine AWP.exit ?_; try simp only [thn, inBlk, if_true, reduceIte, Nat.reduceEqDiff])
        | (refine AWP.ret ?_; try dsimp only [thn, inBlk])
        | (refine AWP.condT ?_ ?_; (focus (simp [go_sem, c11]; done)))
        | (refine AWP.condF ?_ ?_; (focus (simp [go_sem, c11]; done)))
        | (apply AWP.rE; (focus (simp [go_sem, c11]; exact ⟨rfl, rfl⟩)); try dsimp only [thn, inBlk])
        | (apply AWP.dE hmix [.n 0 [13], .n 1 [14], .n 2 [118, 119], .n 3 [120], .n 4 [4], .n 5 [122], .n 6 [123], .n 7 [124], .n 8 [14], .n 9 [125, 126], .n 10 [127], .n 11 [128], .n 12 [129], .n 13 [121, 130]]; (focus kernel_rfl); (focus (simp [go_sem, c11]; exact ⟨rfl, rfl⟩)); try dsimp only [thn, inBlk])
        | fail)
      generalize htn : o.c.tk.length = tn at *
      refine AWP.loopR [3, 4, 6, 24, 25, 26, 7, 65, 66] (fun m s h' => ∃ (x : Nat) (bs : List UInt8), x ≤ tn ∧ m = tn - x ∧ bs.length = tn ∧ s = ⟨134, [(3, ptr i), (4, ptr ib), (6, ptr io), (24, .slice va s1.length vc), (25, .int .i64 s1.length), (26, .int .i64 j), (7, ptr it), (65, .int .i64 tn), (66, .int .i64 x)]⟩ ∧ Own h.asOld h' [ob 5 (.slice a8 tn n8) bs, rcs ib es', csc i L2, cell it (.row (cr o.c (a8, n8)) 34 23 true false), cell io (.row (op o) 36 26 true false)]) ?_ ?_
      · exact ⟨_, 0, o.c.tk, by omega, rfl, htn, by simp [go_sem], by rw [← htn] at k11 ⊢; exact k11.b3⟩
      rintro m s hX ⟨x, bs, hx, rfl, hbl, rfl, kX⟩
      have cX := kX.b3.obj
      by_cases hxm : x < tn
      · have hxm' : (x : Int) < tn := by omega
        have hxb : x < bs.length := by omega
        obtain ⟨b3, o3, c3, ti3, p3, q3, m3, k12⟩ := kX.ob_write (P := Tryd.prog) (t := 27) Tryd.underlying27 tsz5 hxb 238 (kd := .i64)
        have m3' : o3 + 1 ≤ c3.length := m3
        have w2 : IntKind.i64.wrap ((x : Int) + 1) = ((x + 1 : Nat) : Int) := by rw [wI64 (by omega) (by omega)]; omega
        (repeat' first
          | refine AWP.seq ?_
          | refine AWP.block ?_
          | (refine AWP.skip ?_; try dsimp only [thn, inBlk])
          | (refine AWP.exit ?_; try simp only [thn, inBlk, if_true, reduceIte, Nat.reduceEqDiff])
          | (refine AWP.ret ?_; try dsimp only [thn, inBlk])
          | (refine AWP.condT ?_ ?_; (focus (simp [go_sem, hxm', cX, p3, q3, m3', w2, htn]; done)))
          | (refine AWP.condF ?_ ?_; (focus (simp [go_sem, hxm', cX, p3, q3, m3', w2, htn]; done)))
          | (apply AWP.rE; (focus (simp [go_sem, hxm', cX, p3, q3, m3', w2, htn]; exact ⟨rfl, rfl⟩)); try dsimp only [thn, inBlk])
          | (apply AWP.dE hmix [.n 0 [13], .n 1 [14], .n 2 [118, 119], .n 3 [120], .n 4 [4], .n 5 [122], .n 6 [123], .n 7 [124], .n 8 [14], .n 9 [125, 126], .n 10 [127], .n 11 [128], .n 12 [129], .n 13 [121, 130]]; (focus kernel_rfl); (focus (simp [go_sem, hxm', cX, p3, q3, m3', w2, htn]; exact ⟨rfl, rfl⟩)); try dsimp only [thn, inBlk])
          | fail)
        exact ⟨tn - (x + 1), by omega, x + 1, bs.set x 238, by omega, rfl, by simp [hbl], by simp [go_sem], k12⟩
      have hxm' : ¬ (x : Int) < tn := by omega
      (repeat' first
        | refine AWP.seq ?_
        | refine AWP.block ?_
        | (refine AWP.skip ?_; try dsimp only [thn, inBlk])
        | (refine AWP.exit ?_; try simp only [thn, inBlk, if_true, reduceIte, Nat.reduceEqDiff])
        | (refine AWP.ret ?_; try dsimp only [thn, inBlk])
        | (refine AWP.condT ?_ ?_; (focus (simp [go_sem, hxm']; done)))
        | (refine AWP.condF ?_ ?_; (focus (simp [go_sem, hxm']; done)))
        | (apply AWP.rE; (focus (simp [go_sem, hxm']; exact ⟨rfl, rfl⟩)); try dsimp only [thn, inBlk])
        | (apply AWP.dE hmix [.n 0 [13], .n 1 [14], .n 2 [118, 119], .n 3 [120], .n 4 [4], .n 5 [122], .n 6 [123], .n 7 [124], .n 8 [14], .n 9 [125, 126], .n 10 [127], .n 11 [128], .n 12 [129], .n 13 [121, 130]]; (focus kernel_rfl); (focus (simp [go_sem, hxm']; exact ⟨rfl, rfl⟩)); try dsimp only [thn, inBlk])
        | fail)
      refine ⟨L2, es', by simp [go_sem], bi2, pr, hw2, ?_⟩
      (refine Own.sbl ?_ (kX); repeat' first | exact Sbl.nil _ | with_reducible exact Sbl.rfl _ | (apply Sbl.cons) | (apply Sbl.skip) | with_reducible exact Fnd.head _ _ | (apply Fnd.tail))
  rintro s h7 ⟨L, es, rfl, bi, rs, hw, k7⟩
  have hmx := bi.mx
  have hes2 := rs.len bi
  have c7 := k7.obj
  (repeat' first
    | refine AWP.seq ?_
    | refine AWP.block ?_
    | (refine AWP.skip ?_; try dsimp only [thn, inBlk])
    | (refine AWP.exit ?_; try simp only [thn, inBlk, if_true, reduceIte, Nat.reduceEqDiff])
    | (refine AWP.ret ?_; try dsimp only [thn, inBlk])
    | (refine AWP.condT ?_ ?_; (focus (simp [go_sem]; done)))
    | (refine AWP.condF ?_ ?_; (focus (simp [go_sem]; done)))
    | (apply AWP.rE; (focus (simp [go_sem]; exact ⟨rfl, rfl⟩)); try dsimp only [thn, inBlk])
    | (apply AWP.dE hmix [.n 0 [13], .n 1 [14], .n 2 [118, 119], .n 3 [120], .n 4 [4], .n 5 [122], .n 6 [123], .n 7 [124], .n 8 [14], .n 9 [125, 126], .n 10 [127], .n 11 [128], .n 12 [129], .n 13 [121, 130]]; (focus kernel_rfl); (focus (simp [go_sem]; exact ⟨rfl, rfl⟩)); try dsimp only [thn, inBlk])
    | fail)
  refine AWP.callE (by simp [go_sem, c7]; exact ⟨rfl, rfl, rfl, rfl, rfl⟩) (by kernel_rfl) ?_
  refine (find_calls (n := o.sv) (now := o.now) bi k7.b1 (by omega)).mono ?_
  rintro r h8 ⟨p8, rfl, k8⟩
  have k9 := k8.push (.row (cr (findR L o.sv o.now).1 p8) 34 23 true false)
  have c9 := k9.b3.obj
  refine awpL_restE (by simp [go_sem, ↓allocC]; exact ⟨rfl, rfl⟩) ?_; try dsimp only [thn, inBlk]
  (repeat' first
    | refine AWP.seq ?_
    | refine AWP.block ?_
    | (refine AWP.skip ?_; try dsimp only [thn, inBlk])
    | (refine AWP.exit ?_; try simp only [thn, inBlk, if_true, reduceIte, Nat.reduceEqDiff])
    | (refine AWP.ret ?_; try dsimp only [thn, inBlk])
    | (refine AWP.condT ?_ ?_; (focus (simp [go_sem]; done)))
    | (refine AWP.condF ?_ ?_; (focus (simp [go_sem]; done)))
    | (apply AWP.rE; (focus (simp [go_sem]; exact ⟨rfl, rfl⟩)); try dsimp only [thn, inBlk])
    | (apply AWP.dE hmix [.n 0 [13], .n 1 [14], .n 2 [118, 119], .n 3 [120], .n 4 [4], .n 5 [122], .n 6 [123], .n 7 [124], .n 8 [14], .n 9 [125, 126], .n 10 [127], .n 11 [128], .n 12 [129], .n 13 [121, 130]]; (focus kernel_rfl); (focus (simp [go_sem]; exact ⟨rfl, rfl⟩)); try dsimp only [thn, inBlk])
    | fail)
  refine AWP.callE (by simp [go_sem, c9]; exact ⟨rfl, rfl, rfl, rfl, rfl⟩) (by kernel_rfl) ?_
  refine (rfind_calls (n := o.sv) (now := o.now) k9.b4 (by omega)).mono ?_
  rintro r h10 ⟨rfl, k10⟩
  obtain ⟨f1, f2⟩ := rs.find bi o.sv o.now
  have hby : ∀ hh Rr, Own h.asOld hh Rr → Bytes hh (tkV (findS es o.sv o.now).1.1 (findS es o.sv o.now).1.2) (findS es o.sv o.now).1.1.tk := by
    intro hh Rr kk
    rcases findS_cases (es := es) (n := o.sv) (now := o.now) with e | ⟨x, hx, e⟩
    · rw [e]; exact nil_bytes hh
    · rw [e]; exact (hw x hx).1 hh Rr kk
  have heq : aggEqR Tryd.prog .eql 32 (grV (findS es o.sv o.now).1.1.g) (grV (findS es o.sv o.now).1.1.g) = some (.bool true) := by
    rcases findS_cases (es := es) (n := o.sv) (now := o.now) with e | ⟨x, hx, e⟩
    · rw [e]; exact zG_eq
    · rw [e]; exact gr_eq (hw x hx).2
  generalize findS es o.sv o.now = fs at *
  obtain ⟨⟨fc, fp⟩, fb⟩ := fs
  dsimp only at f1 f2 hby heq
  rw [← f1] at k10 ⊢
  rw [← f2]
  have k11 := k10.push (.row (cr fc fp) 34 23 true false)
  have d9 := k11.b2.obj
  have e9 := k11.obj
  refine awpL_restE (by simp [go_sem, ↓allocC]; exact ⟨rfl, rfl⟩) ?_; try dsimp only [thn, inBlk]
  (repeat' first
    | refine AWP.seq ?_
    | refine AWP.block ?_
    | (refine AWP.skip ?_; try dsimp only [thn, inBlk])
    | (refine AWP.exit ?_; try simp only [thn, inBlk, if_true, reduceIte, Nat.reduceEqDiff])
    | (refine AWP.ret ?_; try dsimp only [thn, inBlk])
    | (refine AWP.condT ?_ ?_; (focus (simp [go_sem]; done)))
    | (refine AWP.condF ?_ ?_; (focus (simp [go_sem]; done)))
    | (apply AWP.rE; (focus (simp [go_sem]; exact ⟨rfl, rfl⟩)); try dsimp only [thn, inBlk])
    | (apply AWP.dE hmix [.n 0 [13], .n 1 [14], .n 2 [118, 119], .n 3 [120], .n 4 [4], .n 5 [122], .n 6 [123], .n 7 [124], .n 8 [14], .n 9 [125, 126], .n 10 [127], .n 11 [128], .n 12 [129], .n 13 [121, 130]]; (focus kernel_rfl); (focus (simp [go_sem]; exact ⟨rfl, rfl⟩)); try dsimp only [thn, inBlk])
    | fail)
  refine AWP.callE (by simp [go_sem]; exact ⟨rfl, rfl, rfl, rfl, rfl⟩) (by kernel_rfl) ?_
  refine (servers_calls bi k11.b4).mono ?_
  rintro r h12 ⟨la, lc, rfl, k12⟩
  obtain ⟨v2, k13⟩ := rcs_iff.1 k12.b3
  obtain ⟨va2, vc2, rfl⟩ := k13.b1.os_val
  have hnl : (srvL L).length = es.length := by rw [srvL_len, hes2]
  rw [hnl] at k13 ⊢
  have c13 := k13.obj
  have d13 := k13.b5.obj
  have e13 := k13.b4.obj
  refine awpL_restE (by simp [go_sem]; exact ⟨rfl, rfl⟩) ?_; try dsimp only [thn, inBlk]
  (repeat' first
    | refine AWP.seq ?_
    | refine AWP.block ?_
    | (refine AWP.skip ?_; try dsimp only [thn, inBlk])
    | (refine AWP.exit ?_; try simp only [thn, inBlk, if_true, reduceIte, Nat.reduceEqDiff])
    | (refine AWP.ret ?_; try dsimp only [thn, inBlk])
    | (refine AWP.condT ?_ ?_; (focus (simp [go_sem]; done)))
    | (refine AWP.condF ?_ ?_; (focus (simp [go_sem]; done)))
    | (apply AWP.rE; (focus (simp [go_sem]; exact ⟨rfl, rfl⟩)); try dsimp only [thn, inBlk])
    | (apply AWP.dE hmix [.n 0 [13], .n 1 [14], .n 2 [118, 119], .n 3 [120], .n 4 [4], .n 5 [122], .n 6 [123], .n 7 [124], .n 8 [14], .n 9 [125, 126], .n 10 [127], .n 11 [128], .n 12 [129], .n 13 [121, 130]]; (focus kernel_rfl); (focus (simp [go_sem]; exact ⟨rfl, rfl⟩)); try dsimp only [thn, inBlk])
    | fail)
  refine AWP.callE (by simp [go_sem, d13, e13]; exact ⟨rfl, rfl, rfl, rfl, rfl⟩) (by kernel_rfl) ?_
  refine (same_calls (c := fc) (p := p8) (q := fp) k13 heq (fun hh kk => kk.b6.ob_bytes) (fun hh kk => hby hh _ kk)).mono ?_
  rintro r h14 ⟨rfl, k14⟩
  have c14 := k14.obj
  refine awpL_restE (by simp [go_sem, c14]; exact ⟨rfl, rfl⟩) ?_; try dsimp only [thn, inBlk]
  (repeat' first
    | refine AWP.seq ?_
    | refine AWP.block ?_
    | (refine AWP.skip ?_; try dsimp only [thn, inBlk])
    | (refine AWP.exit ?_; try simp only [thn, inBlk, if_true, reduceIte, Nat.reduceEqDiff])
    | (refine AWP.ret ?_; try dsimp only [thn, inBlk])
    | (refine AWP.condT ?_ ?_; (focus (simp [go_sem]; done)))
    | (refine AWP.condF ?_ ?_; (focus (simp [go_sem]; done)))
    | (apply AWP.rE; (focus (simp [go_sem]; exact ⟨rfl, rfl⟩)); try dsimp only [thn, inBlk])
    | (apply AWP.dE hmix [.n 0 [13], .n 1 [14], .n 2 [118, 119], .n 3 [120], .n 4 [4], .n 5 [122], .n 6 [123], .n 7 [124], .n 8 [14], .n 9 [125, 126], .n 10 [127], .n 11 [128], .n 12 [129], .n 13 [121, 130]]; (focus kernel_rfl); (focus (simp [go_sem]; exact ⟨rfl, rfl⟩)); try dsimp only [thn, inBlk])
    | fail)
  have k15 : Own h.asOld h14 (os 9 1 (.slice la es.length lc) es.length ((srvL L).map Ab.T) :: csc i L :: cell ib (rrow (.slice va2 es.length vc2)) :: crs (.slice va2 es.length vc2) es :: []) := by
    have ht : (txs (.slice la es.length lc) (srvL L) : Chunk) = os 9 1 (.slice la es.length lc) es.length ((srvL L).map Ab.T) := by
      show os 9 1 _ (srvL L).length _ = _; rw [hnl]
    rw [ht] at k14
    (refine Own.sbl ?_ (k14); repeat' first | exact Sbl.nil _ | with_reducible exact Sbl.rfl _ | (apply Sbl.cons) | (apply Sbl.skip) | with_reducible exact Fnd.head _ _ | (apply Fnd.tail))
  refine AWP.loopR [3, 4, 24, 25, 26, 13, 114, 115] (fun m s h' => ∃ (x : Nat), x ≤ es.length ∧ m = es.length - x ∧ s = ⟨134, [(3, ptr i), (4, ptr ib), (24, .slice va s1.length vc), (25, .int .i64 s1.length), (26, .int .i64 j), (13, .slice la es.length lc), (114, .int .i64 es.length), (115, .int .i64 x)]⟩ ∧
      Own h.asOld h' (os 9 1 (.slice la es.length lc) es.length ((srvL L).map Ab.T) :: csc i L :: cell ib (rrow (.slice va2 es.length vc2)) :: crs (.slice va2 es.length vc2) es :: [])) ?_ ?_
  · exact ⟨_, 0, by omega, rfl, by simp [go_sem], k15⟩
  rintro m s hD ⟨x, hx, rfl, rfl, kD⟩
  by_cases hxm : x < es.length
  · have hxm' : (x : Int) < es.length := by omega
    have hx' : es[x]? = some es[x] := List.getElem?_eq_getElem hxm
    have w2 : IntKind.i64.wrap ((x : Int) + 1) = ((x + 1 : Nat) : Int) := by rw [wI64 (by omega) (by omega)]; omega
    have hsx : ((srvL L).map Ab.T)[x]? = some (tx es[x].1.g.sv) := by rw [← rs.names bi, List.map_map, List.getElem?_map, hx']; rfl
    obtain ⟨bi1, bo1, cc1, _, _, _, _, a1, a2, a3⟩ := kD.os_sl.at1 (P := Tryd.prog) (t := 41) Tryd.underlying41 tsz9 hxm hsx (kd := .i64)
    obtain ⟨bi2, bo2, cc2, _, _, _, _, b1, b2, b3, b4, b5, _⟩ := cr_at kD.b3 hx' (kd := .i64)
    have cD := kD.b2.obj
    generalize es[x] = e at *
    (repeat' first
      | refine AWP.seq ?_
      | refine AWP.block ?_
      | (refine AWP.skip ?_; try dsimp only [thn, inBlk])
      | (refine AWP.exit ?_; try simp only [thn, inBlk, if_true, reduceIte, Nat.reduceEqDiff])
      | (refine AWP.ret ?_; try dsimp only [thn, inBlk])
      | (refine AWP.condT ?_ ?_; (focus (simp [go_sem, hxm', cD, a1, a2, a3, b1, b2, b5, w2]; done)))
      | (refine AWP.condF ?_ ?_; (focus (simp [go_sem, hxm', cD, a1, a2, a3, b1, b2, b5, w2]; done)))
      | (apply AWP.rE; (focus (simp [go_sem, hxm', cD, a1, a2, a3, b1, b2, b5, w2]; exact ⟨rfl, rfl⟩)); try dsimp only [thn, inBlk])
      | (apply AWP.dE hmix [.n 0 [13], .n 1 [14], .n 2 [118, 119], .n 3 [120], .n 4 [4], .n 5 [122], .n 6 [123], .n 7 [124], .n 8 [14], .n 9 [125, 126], .n 10 [127], .n 11 [128], .n 12 [129], .n 13 [121, 130]]; (focus kernel_rfl); (focus (simp [go_sem, hxm', cD, a1, a2, a3, b1, b2, b5, w2]; exact ⟨rfl, rfl⟩)); try dsimp only [thn, inBlk])
      | fail)
    exact ⟨es.length - (x + 1), by omega, x + 1, by omega, rfl, by simp [go_sem], kD⟩
  have hxm' : ¬ (x : Int) < es.length := by omega
  (repeat' first
    | refine AWP.seq ?_
    | refine AWP.block ?_
    | (refine AWP.skip ?_; try dsimp only [thn, inBlk])
    | (refine AWP.exit ?_; try simp only [thn, inBlk, if_true, reduceIte, Nat.reduceEqDiff])
    | (refine AWP.ret ?_; try dsimp only [thn, inBlk])
    | (refine AWP.condT ?_ ?_; (focus (simp [go_sem, hxm', w1]; done)))
    | (refine AWP.condF ?_ ?_; (focus (simp [go_sem, hxm', w1]; done)))
    | (apply AWP.rE; (focus (simp [go_sem, hxm', w1]; exact ⟨rfl, rfl⟩)); try dsimp only [thn, inBlk])
    | (apply AWP.dE hmix [.n 0 [13], .n 1 [14], .n 2 [118, 119], .n 3 [120], .n 4 [4], .n 5 [122], .n 6 [123], .n 7 [124], .n 8 [14], .n 9 [125, 126], .n 10 [127], .n 11 [128], .n 12 [129], .n 13 [121, 130]]; (focus kernel_rfl); (focus (simp [go_sem, hxm', w1]; exact ⟨rfl, rfl⟩)); try dsimp only [thn, inBlk])
    | fail)
  refine ⟨s1.length - (j + 1), by omega, j + 1, L, es, by omega, rfl, by simp [go_sem], bi, rs, hw, ?_⟩
  have kF : Own h.asOld hD (rcs ib es :: csc i L :: []) := by
    refine rcs_iff.2 ⟨.slice va2 es.length vc2, ?_⟩
    (refine Own.sbl ?_ (kD); repeat' first | exact Sbl.nil _ | with_reducible exact Sbl.rfl _ | (apply Sbl.cons) | (apply Sbl.skip) | with_reducible exact Fnd.head _ _ | (apply Fnd.tail))
  exact kF.b1
end L11
