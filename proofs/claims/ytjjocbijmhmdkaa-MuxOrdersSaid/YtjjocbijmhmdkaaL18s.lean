import Derived.Test.YtjjocbijmhmdkaaL18r
open Go Ab Go.Proofs
namespace L18
set_option autoImplicit false
set_option linter.unusedSimpArgs false
set_option linter.unusedVariables false
attribute [local irreducible] mcells

set_option maxHeartbeats 8000000 in
theorem apart_calls {h : AHeap} {v0 v : Value} {d : List UInt8} {x : Int} {l : List Op} (hb : h.base = h.next) (h0 : Bytes h v0 d) (hv : BR preO 6 h v l) (hl : l.length ≤ 9223372036854775807) (hwf : ∀ o ∈ l, o.1.Wf) (hx : I64 x) :
    ACalls Try.prog 4 #[v0, .int .i64 x, v] h fun r _ => r = .bool true := by
  refine Own.of_wf fun k0 => ?_
  obtain ⟨va, vc, rfl⟩ := hv.val
  obtain ⟨da, dc, rfl⟩ := h0.val
  refine ACalls.of_awp (args := [.slice da d.length dc, .int .i64 x, .slice va l.length vc]) (n := 105) Try.func4 rfl rfl (by show 3 ≤ 105; omega) ?_
  (repeat' first
    | refine AWP.seq ?_
    | refine AWP.block ?_
    | (refine AWP.skip ?_; try dsimp only [thn, inBlk])
    | (refine AWP.exit ?_; try simp only [thn, inBlk, if_true, reduceIte, Nat.reduceEqDiff])
    | (refine AWP.ret ?_; try dsimp only [thn, inBlk])
    | (refine AWP.condT ?_ ?_; (focus (simp [go_sem]; done)))
    | (refine AWP.condF ?_ ?_; (focus (simp [go_sem]; done)))
    | (apply AWP.rE; (focus (simp [go_sem]; exact ⟨rfl, rfl⟩)); try dsimp only [thn, inBlk])
    | fail)
  refine AWP.callE (by simp [go_sem]; exact ⟨rfl, rfl, rfl, rfl, rfl⟩) (by kernel_rfl) ?_
  refine (speaks_calls k0).mono ?_
  rintro r h1 ⟨rfl, k1⟩
  refine awpL_restE (by simp [go_sem]; exact ⟨rfl, rfl⟩) ?_; try dsimp only [thn, inBlk]
  (repeat' first
    | refine AWP.seq ?_
    | refine AWP.block ?_
    | (refine AWP.skip ?_; try dsimp only [thn, inBlk])
    | (refine AWP.exit ?_; try simp only [thn, inBlk, if_true, reduceIte, Nat.reduceEqDiff])
    | (refine AWP.ret ?_; try dsimp only [thn, inBlk])
    | (refine AWP.condT ?_ ?_; (focus (simp [go_sem]; done)))
    | (refine AWP.condF ?_ ?_; (focus (simp [go_sem]; done)))
    | (apply AWP.rE; (focus (simp [go_sem]; exact ⟨rfl, rfl⟩)); try dsimp only [thn, inBlk])
    | fail)
  refine AWP.callE (by simp [go_sem]; exact ⟨rfl, rfl, rfl, rfl, rfl⟩) (by kernel_rfl) ?_
  refine (great_calls hb hv k1 hl).mono ?_
  rintro r h2 ⟨rfl, k2⟩
  cases hbig : big l
  rotate_left
  · refine awpL_restE (by simp [go_sem]; exact ⟨rfl, rfl⟩) ?_; try dsimp only [thn, inBlk]
    (repeat' first
      | refine AWP.seq ?_
      | refine AWP.block ?_
      | (refine AWP.skip ?_; try dsimp only [thn, inBlk])
      | (refine AWP.exit ?_; try simp only [thn, inBlk, if_true, reduceIte, Nat.reduceEqDiff])
      | (refine AWP.ret ?_; try dsimp only [thn, inBlk])
      | (refine AWP.condT ?_ ?_; (focus (simp [go_sem]; done)))
      | (refine AWP.condF ?_ ?_; (focus (simp [go_sem]; done)))
      | (apply AWP.rE; (focus (simp [go_sem]; exact ⟨rfl, rfl⟩)); try dsimp only [thn, inBlk])
      | fail)
    simp [bodyQ, thn, inBlk, resA, resV, go_sem]
  have h80 : l.length ≤ 80 := by
    simp [big] at hbig; omega
  by_cases hd : 500 < d.length
  · have hd' : (500 : Int) < d.length := by omega
    refine awpL_restE (by simp [go_sem, hd']; exact ⟨rfl, rfl⟩) ?_; try dsimp only [thn, inBlk]
    (repeat' first
      | refine AWP.seq ?_
      | refine AWP.block ?_
      | (refine AWP.skip ?_; try dsimp only [thn, inBlk])
      | (refine AWP.exit ?_; try simp only [thn, inBlk, if_true, reduceIte, Nat.reduceEqDiff])
      | (refine AWP.ret ?_; try dsimp only [thn, inBlk])
      | (refine AWP.condT ?_ ?_; (focus (simp [go_sem]; done)))
      | (refine AWP.condF ?_ ?_; (focus (simp [go_sem]; done)))
      | (apply AWP.rE; (focus (simp [go_sem]; exact ⟨rfl, rfl⟩)); try dsimp only [thn, inBlk])
      | fail)
    simp [bodyQ, thn, inBlk, resA, resV, go_sem]
  have hd' : ¬ (500 : Int) < d.length := by omega
  refine awpL_restE (by simp [go_sem, hd']; exact ⟨rfl, rfl⟩) ?_; try dsimp only [thn, inBlk]
  (repeat' first
    | refine AWP.seq ?_
    | refine AWP.block ?_
    | (refine AWP.skip ?_; try dsimp only [thn, inBlk])
    | (refine AWP.exit ?_; try simp only [thn, inBlk, if_true, reduceIte, Nat.reduceEqDiff])
    | (refine AWP.ret ?_; try dsimp only [thn, inBlk])
    | (refine AWP.condT ?_ ?_; (focus (simp [go_sem]; done)))
    | (refine AWP.condF ?_ ?_; (focus (simp [go_sem]; done)))
    | (apply AWP.rE; (focus (simp [go_sem]; exact ⟨rfl, rfl⟩)); try dsimp only [thn, inBlk])
    | fail)
  refine AWP.callE (by simp [go_sem]; exact ⟨rfl, rfl, rfl, rfl, rfl⟩) (by kernel_rfl) ?_
  refine (new_calls k2).mono ?_
  rintro r h3 ⟨a, rfl, k3⟩
  refine awpL_toCall (by simp [go_sem]; exact ⟨rfl, rfl, rfl, rfl, rfl⟩) (by kernel_rfl) ?_
  refine (new_calls k3).mono ?_
  rintro r h4 ⟨b, rfl, k4⟩
  refine awpL_restE (by simp [go_sem]; exact ⟨rfl, rfl⟩) ?_; try dsimp only [thn, inBlk]
  have wx := msk_w x (m := 1) (by omega)
  obtain ⟨mx, hmx⟩ : ∃ mx, mx = msk x 1 := ⟨_, rfl⟩
  have hmx1 : mx ≤ 1 := by rw [hmx]; exact msk_le _ _
  rw [← hmx] at wx
  obtain ⟨c, hc⟩ : ∃ c, c = 1 + mx := ⟨_, rfl⟩
  have wc : IntKind.i64.wrap (1 + (mx : Int)) = (c : Int) := by rw [wI64 (by omega) (by omega)]; omega
  (repeat' first
    | refine AWP.seq ?_
    | refine AWP.block ?_
    | (refine AWP.skip ?_; try dsimp only [thn, inBlk])
    | (refine AWP.exit ?_; try simp only [thn, inBlk, if_true, reduceIte, Nat.reduceEqDiff])
    | (refine AWP.ret ?_; try dsimp only [thn, inBlk])
    | (refine AWP.condT ?_ ?_; (focus (simp [go_sem, wx, wc]; done)))
    | (refine AWP.condF ?_ ?_; (focus (simp [go_sem, wx, wc]; done)))
    | (apply AWP.rE; (focus (simp [go_sem, wx, wc]; exact ⟨rfl, rfl⟩)); try dsimp only [thn, inBlk])
    | fail)
  refine AWP.loopR [0, 7, 8, 9, 34, 35, 36] (fun m s h' => ∃ (j : Nat) (o : List Hf), j ≤ l.length ∧ m = l.length - j ∧ s = ⟨105, [(0, .slice da d.length dc), (7, ptr a), (8, ptr b), (9, .int .i64 (c : Nat)), (34, .slice va l.length vc), (35, .int .i64 l.length), (36, .int .i64 (j : Nat))]⟩ ∧
    MI o (zi 4) ∧ hg o 1 = z0 ∧ hg o 2 = z0 ∧ (hg o 0).closed = false ∧ (hg o 3).closed = false ∧ Own h.asOld h' [mux a o (zi 4), mux b (zo 4) (zi 4)]) ?_ ?_
  · exact ⟨_, 0, zo 4, by omega, rfl, by simp [go_sem], MI.new, rfl, rfl, rfl, rfl, by (refine Own.sbl ?_ (k4); repeat' first | exact Sbl.nil _ | with_reducible exact Sbl.rfl _ | (apply Sbl.cons) | (apply Sbl.skip) | with_reducible exact Fnd.head _ _ | (apply Fnd.tail))⟩
  rintro m s h5 ⟨j, o, hj, rfl, rfl, mi, g1, g2, g0, g3, kt⟩
  by_cases hj2 : j < l.length
  · have hj3 : (j : Int) < l.length := by omega
    obtain ⟨j1, hj1⟩ : ∃ j1, j1 = j + 1 := ⟨_, rfl⟩
    have wj : IntKind.i64.wrap ((j : Int) + 1) = (j1 : Int) := by rw [wI64 (by omega) (by omega)]; omega
    obtain ⟨oi, oo, oc, oe, osz, oti, oro, oa, ocap, p1, p2, p3, p4, p5⟩ := op_at (hv.of_old hb kt) hj2 (kd := .i64)
    obtain ⟨q, hq⟩ : ∃ q, q = l[j] := ⟨_, rfl⟩
    rw [← hq] at p4 p5
    have kp := kt.push (.row (orow q oa ocap) 32 6 true false)
    have cp := kp.obj
    have wk := msk_w q.1.kind (m := 1) (by omega)
    obtain ⟨kd, hkd⟩ : ∃ kd, kd = msk q.1.kind 1 := ⟨_, rfl⟩
    rw [← hkd] at wk
    have hsz := szO_le q
    have step : ∀ (ch : Int), (ch = 0 ∨ ch = 3) → ∀ (h' : AHeap) (L : List Chunk), Own h.asOld h' (mux a (mwrite o ch (txt (szO q) j)).2 (zi 4) :: L ++ [mux b (zo 4) (zi 4)]) → MI (mwrite o ch (txt (szO q) j)).2 (zi 4) ∧ hg (mwrite o ch (txt (szO q) j)).2 1 = z0 ∧ hg (mwrite o ch (txt (szO q) j)).2 2 = z0 ∧ (hg (mwrite o ch (txt (szO q) j)).2 0).closed = false ∧ (hg (mwrite o ch (txt (szO q) j)).2 3).closed = false := fun ch hch _ _ _ =>
      ⟨mi.write ch _, by rw [write_other _ _ _ _ (by omega)]; exact g1, by rw [write_other _ _ _ _ (by omega)]; exact g2, by rw [write_closed _ _ _ _ mi.ol]; exact g0, by rw [write_closed _ _ _ _ mi.ol]; exact g3⟩
    by_cases hk : kd = 0
    · subst hk
      (repeat' first
        | refine AWP.seq ?_
        | refine AWP.block ?_
        | (refine AWP.skip ?_; try dsimp only [thn, inBlk])
        | (refine AWP.exit ?_; try simp only [thn, inBlk, if_true, reduceIte, Nat.reduceEqDiff])
        | (refine AWP.ret ?_; try dsimp only [thn, inBlk])
        | (refine AWP.condT ?_ ?_; (focus (simp [go_sem, hj3, p1, p2, p3, p4, cp, wk]; done)))
        | (refine AWP.condF ?_ ?_; (focus (simp [go_sem, hj3, p1, p2, p3, p4, cp, wk]; done)))
        | (apply AWP.rE; (focus (simp [go_sem, hj3, p1, p2, p3, p4, cp, wk]; exact ⟨rfl, rfl⟩)); try dsimp only [thn, inBlk])
        | fail)
      refine AWP.callE (by simp [go_sem, cp]; exact ⟨rfl, rfl, rfl, rfl, rfl⟩) (by kernel_rfl) ?_
      refine (size_calls kp q).mono ?_
      rintro r h6 ⟨rfl, k6⟩
      refine awpL_toCall (by simp [go_sem]; exact ⟨rfl, rfl, rfl, rfl, rfl⟩) (by kernel_rfl) ?_
      refine (text_calls k6 (n := szO q) (fr := j) (by omega) (by omega)).mono ?_
      rintro r h7 ⟨ta, tc, rfl, k7⟩
      refine awpL_toCall (by simp [go_sem]; exact ⟨rfl, rfl, rfl, rfl, rfl⟩) (by kernel_rfl) ?_
      refine (write_calls (d := txt (szO q) j) k7.b2 mi 0 (fun hh kk => kk.ob_bytes) (by rw [txt_len]; omega)).mono ?_
      rintro r h8 ⟨rfl, k8⟩
      refine awpL_restE (by simp [go_sem]; exact ⟨rfl, rfl⟩) ?_; try dsimp only [thn, inBlk]
      obtain ⟨s1, s2, s3, s4, s5⟩ := step 0 (.inl rfl) h8 [] k8.d1.d1
      (repeat' first
        | refine AWP.seq ?_
        | refine AWP.block ?_
        | (refine AWP.skip ?_; try dsimp only [thn, inBlk])
        | (refine AWP.exit ?_; try simp only [thn, inBlk, if_true, reduceIte, Nat.reduceEqDiff])
        | (refine AWP.ret ?_; try dsimp only [thn, inBlk])
        | (refine AWP.condT ?_ ?_; (focus (simp [go_sem, wj]; done)))
        | (refine AWP.condF ?_ ?_; (focus (simp [go_sem, wj]; done)))
        | (apply AWP.rE; (focus (simp [go_sem, wj]; exact ⟨rfl, rfl⟩)); try dsimp only [thn, inBlk])
        | fail)
      exact ⟨l.length - j1, by omega, j1, _, by omega, rfl, by simp [go_sem], s1, s2, s3, s4, s5, k8.d1.d1⟩
    · have hk1 : kd = 1 := by have := msk_le q.1.kind 1; omega
      subst hk1
      (repeat' first
        | refine AWP.seq ?_
        | refine AWP.block ?_
        | (refine AWP.skip ?_; try dsimp only [thn, inBlk])
        | (refine AWP.exit ?_; try simp only [thn, inBlk, if_true, reduceIte, Nat.reduceEqDiff])
        | (refine AWP.ret ?_; try dsimp only [thn, inBlk])
        | (refine AWP.condT ?_ ?_; (focus (simp [go_sem, hj3, p1, p2, p3, p4, cp, wk]; done)))
        | (refine AWP.condF ?_ ?_; (focus (simp [go_sem, hj3, p1, p2, p3, p4, cp, wk]; done)))
        | (apply AWP.rE; (focus (simp [go_sem, hj3, p1, p2, p3, p4, cp, wk]; exact ⟨rfl, rfl⟩)); try dsimp only [thn, inBlk])
        | fail)
      refine AWP.callE (by simp [go_sem, cp]; exact ⟨rfl, rfl, rfl, rfl, rfl⟩) (by kernel_rfl) ?_
      refine (size_calls kp q).mono ?_
      rintro r h6 ⟨rfl, k6⟩
      refine awpL_toCall (by simp [go_sem]; exact ⟨rfl, rfl, rfl, rfl, rfl⟩) (by kernel_rfl) ?_
      refine (text_calls k6 (n := szO q) (fr := j) (by omega) (by omega)).mono ?_
      rintro r h7 ⟨ta, tc, rfl, k7⟩
      refine awpL_toCall (by simp [go_sem]; exact ⟨rfl, rfl, rfl, rfl, rfl⟩) (by kernel_rfl) ?_
      refine (write_calls (d := txt (szO q) j) k7.b2 mi 3 (fun hh kk => kk.ob_bytes) (by rw [txt_len]; omega)).mono ?_
      rintro r h8 ⟨rfl, k8⟩
      refine awpL_restE (by simp [go_sem]; exact ⟨rfl, rfl⟩) ?_; try dsimp only [thn, inBlk]
      obtain ⟨s1, s2, s3, s4, s5⟩ := step 3 (.inr rfl) h8 [] k8.d1.d1
      (repeat' first
        | refine AWP.seq ?_
        | refine AWP.block ?_
        | (refine AWP.skip ?_; try dsimp only [thn, inBlk])
        | (refine AWP.exit ?_; try simp only [thn, inBlk, if_true, reduceIte, Nat.reduceEqDiff])
        | (refine AWP.ret ?_; try dsimp only [thn, inBlk])
        | (refine AWP.condT ?_ ?_; (focus (simp [go_sem, wj]; done)))
        | (refine AWP.condF ?_ ?_; (focus (simp [go_sem, wj]; done)))
        | (apply AWP.rE; (focus (simp [go_sem, wj]; exact ⟨rfl, rfl⟩)); try dsimp only [thn, inBlk])
        | fail)
      exact ⟨l.length - j1, by omega, j1, _, by omega, rfl, by simp [go_sem], s1, s2, s3, s4, s5, k8.d1.d1⟩
  have hj3 : ¬ (j : Int) < l.length := by omega
  have hgc : hg o c = z0 := by
    have : c = 1 ∨ c = 2 := by omega
    rcases this with e | e <;> rw [e] <;> assumption
  have hgc' : hg o (3 - c) = z0 := by
    have : 3 - c = 1 ∨ 3 - c = 2 := by omega
    rcases this with e | e <;> rw [e] <;> assumption
  have ew : mwrite o c d = (0, o.set c ⟨d, 1024, false, false⟩) := by
    unfold mwrite mopen
    rw [Int.toNat_natCast, hgc, if_neg (show ¬ ((c : Int) < 0 ∨ 4 ≤ (c : Int)) by omega)]
    simp; omega
  have hcl : c < o.length := by rw [mi.ol]; omega
  have ec : mclose (o.set c ⟨d, 1024, false, false⟩) c = (0, o.set c ⟨d, 1024, true, false⟩) := by
    unfold mclose mopen
    rw [Int.toNat_natCast, hg_set hcl, if_neg (show ¬ ((c : Int) < 0 ∨ 4 ≤ (c : Int)) by omega), List.set_set]
    simp
  (repeat' first
    | refine AWP.seq ?_
    | refine AWP.block ?_
    | (refine AWP.skip ?_; try dsimp only [thn, inBlk])
    | (refine AWP.exit ?_; try simp only [thn, inBlk, if_true, reduceIte, Nat.reduceEqDiff])
    | (refine AWP.ret ?_; try dsimp only [thn, inBlk])
    | (refine AWP.condT ?_ ?_; (focus (simp [go_sem, hj3]; done)))
    | (refine AWP.condF ?_ ?_; (focus (simp [go_sem, hj3]; done)))
    | (apply AWP.rE; (focus (simp [go_sem, hj3]; exact ⟨rfl, rfl⟩)); try dsimp only [thn, inBlk])
    | fail)
  refine AWP.callE (by simp [go_sem]; exact ⟨rfl, rfl, rfl, rfl, rfl⟩) (by kernel_rfl) ?_
  have miw := mi.write c d
  refine (write_calls (d := d) kt mi c (fun hh kk => h0.of_old hb kk) (by omega)).mono ?_
  rw [ew] at miw ⊢
  rintro r h6 ⟨rfl, k6⟩
  have mic := miw.close c
  refine awpL_toCall (by simp [go_sem]; exact ⟨rfl, rfl, rfl, rfl, rfl⟩) (by kernel_rfl) ?_
  refine (close_calls k6 c).mono ?_
  dsimp only at mic ⊢
  rw [ec] at mic ⊢
  rintro r h7 ⟨rfl, k7⟩
  refine awpL_restE (by simp [go_sem]; exact ⟨rfl, rfl⟩) ?_; try dsimp only [thn, inBlk]
  dsimp only at k7 mic
  (repeat' first
    | refine AWP.seq ?_
    | refine AWP.block ?_
    | (refine AWP.skip ?_; try dsimp only [thn, inBlk])
    | (refine AWP.exit ?_; try simp only [thn, inBlk, if_true, reduceIte, Nat.reduceEqDiff])
    | (refine AWP.ret ?_; try dsimp only [thn, inBlk])
    | (refine AWP.condT ?_ ?_; (focus (simp [go_sem]; done)))
    | (refine AWP.condF ?_ ?_; (focus (simp [go_sem]; done)))
    | (apply AWP.rE; (focus (simp [go_sem]; exact ⟨rfl, rfl⟩)); try dsimp only [thn, inBlk])
    | fail)
  refine AWP.callE (by simp [go_sem]; exact ⟨rfl, rfl, rfl, rfl, rfl⟩) (by kernel_rfl) ?_
  refine (out_calls k7 mic).mono ?_
  rintro r h8 ⟨fa, fc, rfl, k8⟩
  refine awpL_restE (by simp [go_sem]; exact ⟨rfl, rfl⟩) ?_; try dsimp only [thn, inBlk]
  obtain ⟨ib, t1, t2, t3, _⟩ := outN_taken mic (fun c hc => by
    match c, hc with
    | 0, _ => rfl
    | 1, _ => rfl
    | 2, _ => rfl
    | 3, _ => rfl) 4 (by omega)
  have hsm := out_small (o := o.set c ⟨d, 1024, true, false⟩) (i := zi 4) 4
  have hol := (mic.outN 4 (by omega)).2
  change mtakeL (zo 4) (zi 4) (mout _ _).1 = _ at t1
  change ∀ f ∈ (mout _ _).1, _ at hsm
  change (mout _ _).1.length ≤ _ at hol
  generalize hfs : (mout (o.set c ⟨d, 1024, true, false⟩) (zi 4)).1 = fs at *
  generalize (mout (o.set c ⟨d, 1024, true, false⟩) (zi 4)).2.1 = o2 at *
  generalize (mout (o.set c ⟨d, 1024, true, false⟩) (zi 4)).2.2 = i2 at *
  obtain ⟨ac, ha, k9⟩ := frs_iff.1 k8
  (repeat' first
    | refine AWP.seq ?_
    | refine AWP.block ?_
    | (refine AWP.skip ?_; try dsimp only [thn, inBlk])
    | (refine AWP.exit ?_; try simp only [thn, inBlk, if_true, reduceIte, Nat.reduceEqDiff])
    | (refine AWP.ret ?_; try dsimp only [thn, inBlk])
    | (refine AWP.condT ?_ ?_; (focus (simp [go_sem]; done)))
    | (refine AWP.condF ?_ ?_; (focus (simp [go_sem]; done)))
    | (apply AWP.rE; (focus (simp [go_sem]; exact ⟨rfl, rfl⟩)); try dsimp only [thn, inBlk])
    | fail)
  refine AWP.loopR [0, 8, 9, 70, 71, 72] (fun m s h' => ∃ (e : Nat) (oe : List Hf) (ie : List Ot), e ≤ fs.length ∧ m = fs.length - e ∧ s = ⟨105, [(0, .slice da d.length dc), (8, ptr b), (9, .int .i64 (c : Nat)), (70, .slice fa fs.length fc), (71, .int .i64 fs.length), (72, .int .i64 (e : Nat))]⟩ ∧
    MI oe ie ∧ mtakeL oe ie (fs.drop e) = some (zo 4, ib) ∧ Own h.asOld h' [mux b oe ie, frc (.slice fa fs.length fc) fs ac]) ?_ ?_
  · exact ⟨_, 0, zo 4, zi 4, by omega, rfl, by simp [go_sem], MI.new, t1, by (refine Own.sbl ?_ (k9); repeat' first | exact Sbl.nil _ | with_reducible exact Sbl.rfl _ | (apply Sbl.cons) | (apply Sbl.skip) | with_reducible exact Fnd.head _ _ | (apply Fnd.tail))⟩
  rintro m s h9 ⟨e, oe, ie, he, rfl, rfl, mie, te, k10⟩
  by_cases he2 : e < fs.length
  · have he3 : (e : Int) < fs.length := by omega
    obtain ⟨e1, he1⟩ : ∃ e1, e1 = e + 1 := ⟨_, rfl⟩
    have we1 : IntKind.i64.wrap ((e : Int) + 1) = (e1 : Int) := by rw [wI64 (by omega) (by omega)]; omega
    obtain ⟨f, hf⟩ : ∃ f, f = fs[e] := ⟨_, rfl⟩
    obtain ⟨p, hp⟩ : ∃ p, p = ac[e]'(by omega) := ⟨_, rfl⟩
    have hf2 : fs[e]? = some f := by rw [hf, List.getElem?_eq_getElem he2]
    have hp2 : ac[e]? = some p := by rw [hp, List.getElem?_eq_getElem (by omega)]
    obtain ⟨i4, o4, c4, e4, s4, t4, ro4, p4, q4, r4, u4, v4, x4⟩ := fr_at k10.b1 ha hf2 hp2 (kd := .i64)
    have hfm : f ∈ fs := by rw [hf]; exact List.getElem_mem he2
    have hfl := hsm f hfm
    have kf := k10.push (.row [.int .i64 f.1, .slice p.1 f.2.length p.2] 30 2 true false)
    have cf := kf.obj
    rw [List.drop_eq_getElem_cons he2, ← hf, ← he1] at te
    simp only [mtakeL] at te
    split at te
    rotate_left
    · cases te
    rename_i hr0
    (repeat' first
      | refine AWP.seq ?_
      | refine AWP.block ?_
      | (refine AWP.skip ?_; try dsimp only [thn, inBlk])
      | (refine AWP.exit ?_; try simp only [thn, inBlk, if_true, reduceIte, Nat.reduceEqDiff])
      | (refine AWP.ret ?_; try dsimp only [thn, inBlk])
      | (refine AWP.condT ?_ ?_; (focus (simp [go_sem, he3, p4, q4, r4, u4, cf]; done)))
      | (refine AWP.condF ?_ ?_; (focus (simp [go_sem, he3, p4, q4, r4, u4, cf]; done)))
      | (apply AWP.rE; (focus (simp [go_sem, he3, p4, q4, r4, u4, cf]; exact ⟨rfl, rfl⟩)); try dsimp only [thn, inBlk])
      | fail)
    refine AWP.callE (by simp [go_sem, cf]; exact ⟨rfl, rfl, rfl, rfl, rfl⟩) (by kernel_rfl) ?_
    have mi2 := mie.take f
    refine (take_calls f kf.b1 mie (fun hh kk => fr_body kk.tail hf2 hp2) (by omega)).mono ?_
    rw [hr0]
    rintro r h10 ⟨rfl, k11⟩
    refine awpL_restE (by simp [go_sem]; exact ⟨rfl, rfl⟩) ?_; try dsimp only [thn, inBlk]
    (repeat' first
      | refine AWP.seq ?_
      | refine AWP.block ?_
      | (refine AWP.skip ?_; try dsimp only [thn, inBlk])
      | (refine AWP.exit ?_; try simp only [thn, inBlk, if_true, reduceIte, Nat.reduceEqDiff])
      | (refine AWP.ret ?_; try dsimp only [thn, inBlk])
      | (refine AWP.condT ?_ ?_; (focus (simp [go_sem, we1]; done)))
      | (refine AWP.condF ?_ ?_; (focus (simp [go_sem, we1]; done)))
      | (apply AWP.rE; (focus (simp [go_sem, we1]; exact ⟨rfl, rfl⟩)); try dsimp only [thn, inBlk])
      | fail)
    exact ⟨fs.length - e1, by omega, e1, _, _, by omega, rfl, by simp [go_sem], mi2, te, by (refine Own.sbl ?_ (k11); repeat' first | exact Sbl.nil _ | with_reducible exact Sbl.rfl _ | (apply Sbl.cons) | (apply Sbl.skip) | with_reducible exact Fnd.head _ _ | (apply Fnd.tail))⟩
  have he3 : ¬ (e : Int) < fs.length := by omega
  rw [List.drop_of_length_le (by omega)] at te
  simp only [mtakeL, Option.some.injEq, Prod.mk.injEq] at te
  obtain ⟨rfl, rfl⟩ := te
  (repeat' first
    | refine AWP.seq ?_
    | refine AWP.block ?_
    | (refine AWP.skip ?_; try dsimp only [thn, inBlk])
    | (refine AWP.exit ?_; try simp only [thn, inBlk, if_true, reduceIte, Nat.reduceEqDiff])
    | (refine AWP.ret ?_; try dsimp only [thn, inBlk])
    | (refine AWP.condT ?_ ?_; (focus (simp [go_sem, he3]; done)))
    | (refine AWP.condF ?_ ?_; (focus (simp [go_sem, he3]; done)))
    | (apply AWP.rE; (focus (simp [go_sem, he3]; exact ⟨rfl, rfl⟩)); try dsimp only [thn, inBlk])
    | fail)
  have oc : og ie c = ⟨d, 1024 - d.length, 0, true⟩ := by
    rw [t3 c (by omega), hg_set hcl]
    have : cutn d 1024 = d.length := by unfold cutn; omega
    simp [came, mend, this]
  have o0 : (og ie 0).ended = false := by
    rw [t3 0 (by omega), hg_ne (by omega)]
    simp [came, mend, g0]
  have o3 : (og ie (3 - c)).ended = false := by
    rw [t3 (3 - c) (by omega), hg_ne (by omega), hgc']
    simp [came, mend]
  have er : mread ie c 1000 = (d, ie.set c ⟨[], 1024 - d.length, d.length, true⟩) := by
    unfold mread
    rw [if_neg (by omega), Int.toNat_natCast, oc]
    have : min 1000 d.length = d.length := by omega
    simp [this]
  have icl : c < ie.length := by rw [mie.il]; omega
  have en0 : mended (ie.set c ⟨[], 1024 - d.length, d.length, true⟩) c = true := by
    unfold mended; rw [if_pos (by omega), Int.toNat_natCast, og_set icl]; rfl
  have en1 : mended (ie.set c ⟨[], 1024 - d.length, d.length, true⟩) 0 = false := by
    unfold mended; rw [if_pos (by omega), show Int.toNat 0 = 0 from rfl, og_ne (by omega), o0]; rfl
  have en2 : mended (ie.set c ⟨[], 1024 - d.length, d.length, true⟩) ((3 - c : Nat) : Int) = false := by
    unfold mended; rw [if_pos (by omega), Int.toNat_natCast, og_ne (by omega), o3]; rfl
  have w3 : IntKind.i64.wrap (3 - (c : Int)) = ((3 - c : Nat) : Int) := by rw [wI64 (by omega) (by omega)]; omega
  have s0 := (h0.of_old hb k10).str (P := Try.prog) (t := 28) (e := 5) (u := 9) Try.underlying28 Try.underlying5 Try.underlying9
  refine AWP.draw hmix [.n 0 [8], .n 1 [9], .n 4 [0], .n 5 [85], .w 2 [81, 82] [5], .n 3 [83], .n 6 [84, 86], .n 7 [87], .n 8 [8, 88], .n 9 [9, 88], .w 10 [89, 90, 88] [], .n 11 [88, 91], .n 12 [92], .n 13 [8, 93], .w 14 [94, 93] [], .n 15 [95, 93], .n 16 [93, 96], .n 17 [97], .n 18 [8, 98], .n 19 [9, 98], .n 20 [100, 98], .w 21 [99, 101, 98] [], .n 22 [102, 98], .n 23 [98, 103], .n 24 [104]] (by kernel_rfl) ?_
  refine awpD_callR 4 (by rfl) (by rfl) (by simp [go_sem, s0]; exact ⟨rfl, rfl, rfl⟩) (by rfl) (by rfl) (by simp [go_sem]) (by simp [go_sem, s0]; exact ⟨rfl, rfl⟩) (by kernel_rfl) ?_
  refine (read_calls k10 mie c 1000).mono ?_
  rw [er]
  rintro r h10 k11
  obtain ⟨ra, rc, rfl⟩ := k11.os_val
  dsimp only at k11 ⊢
  have s1 := (h0.of_old hb k11).str (P := Try.prog) (t := 28) (e := 5) (u := 9) Try.underlying28 Try.underlying5 Try.underlying9
  have s2 := k11.ob_bytes.str (P := Try.prog) (t := 28) (e := 5) (u := 9) Try.underlying28 Try.underlying5 Try.underlying9
  refine ⟨by simp [still, go_sem, s0, s1], ?_⟩
  refine awpD_callR 5 (by rfl) (by rfl) (by simp [go_sem, s1, s2]; exact ⟨rfl, rfl, rfl⟩) (by rfl) (by rfl) (by simp [go_sem]) (by simp [go_sem, s1, s2]; exact ⟨rfl, rfl⟩) (by kernel_rfl) ?_
  refine (ended_calls k11.b1 c).mono ?_
  rw [en0]
  rintro r h11 ⟨rfl, rfl⟩
  refine ⟨by simp [still, go_sem], ?_⟩
  refine awpD_callR 3 (by rfl) (by rfl) (by simp [go_sem]; exact ⟨rfl, rfl, rfl⟩) (by rfl) (by rfl) (by simp [go_sem]) (by simp [go_sem]; exact ⟨rfl, rfl⟩) (by kernel_rfl) ?_
  refine (ended_calls k11.b1 0).mono ?_
  rw [en1]
  rintro r h11 ⟨rfl, rfl⟩
  refine ⟨by simp [still, go_sem], ?_⟩
  refine awpD_callR 6 (by rfl) (by rfl) (by simp [go_sem, w3]; exact ⟨rfl, rfl, rfl⟩) (by rfl) (by rfl) (by simp [go_sem]) (by simp [go_sem, w3]; exact ⟨rfl, rfl⟩) (by kernel_rfl) ?_
  refine (ended_calls k11.b1 ((3 - c : Nat) : Int)).mono ?_
  rw [en2]
  rintro r h11 ⟨rfl, rfl⟩
  refine ⟨by simp [still, go_sem], ?_⟩
  refine awpD_restR (by rfl) (by simp [go_sem]; exact ⟨rfl, rfl, rfl⟩) ?_; try dsimp only [thn, inBlk]
  (repeat' first
    | refine AWP.seq ?_
    | refine AWP.block ?_
    | (refine AWP.skip ?_; try dsimp only [thn, inBlk])
    | (refine AWP.exit ?_; try simp only [thn, inBlk, if_true, reduceIte, Nat.reduceEqDiff])
    | (refine AWP.ret ?_; try dsimp only [thn, inBlk])
    | (refine AWP.condT ?_ ?_; (focus (simp [go_sem]; done)))
    | (refine AWP.condF ?_ ?_; (focus (simp [go_sem]; done)))
    | (apply AWP.rE; (focus (simp [go_sem]; exact ⟨rfl, rfl⟩)); try dsimp only [thn, inBlk])
    | fail)
  simp [bodyQ, thn, inBlk, resA, resV, go_sem]
end L18
