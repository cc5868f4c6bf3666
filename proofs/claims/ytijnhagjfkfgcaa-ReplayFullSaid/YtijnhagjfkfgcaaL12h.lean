import Derived.Test.YtijnhagjfkfgcaaL12g
open Go Ab Go.Proofs
namespace L12
set_option autoImplicit false
set_option linter.unusedSimpArgs false
set_option linter.unusedVariables false

theorem opc_tail {o : Opr} (h : o.Wf) : ((opc o).tail).take 19 = au o.a := by rw [← List.drop_one]; exact opc_au h
theorem seen_u (l : List Au) {c : Bool} {u u' : Int} (h : c = true → u = u') (a : Au) (now : Int) : seenR l c u a now = seenR l c u' a now := by
  cases c with
  | true => rw [h rfl]
  | false => simp [seenR]



theorem unt_i64 {c : Bool} {u now : Int} (h1 : I64 u) (h2 : I64 now) : I64 (unt c u now) := by
  unfold unt; split
  · exact h1
  · exact h2
theorem unt_eq {c : Bool} {u u' now : Int} (h : c = true → u = u') : unt c u now = unt c u' now := by
  cases c with
  | true => rw [h rfl]
  | false => simp [unt]

set_option maxHeartbeats 8000000 in
theorem plays_calls {h : AHeap} {v : Value} {l : List Opr} {begin : Int} (hb : h.base = h.next) (hs : Script h v l) (hw : ∀ o ∈ l, o.Wf) (hbg : I64 begin) :
    ACalls Try.prog 3 #[.int .i64 begin, v] h fun r _ => r = .bool true := by
  refine Own.of_wf fun k0 => ?_
  obtain ⟨va, vc, rfl⟩ := hs.val
  refine ACalls.of_awp (args := [.int .i64 begin, .slice va l.length vc]) (n := 57) Try.func3 rfl rfl (by show 2 ≤ 57; omega) ?_
  have HS : ∀ {hh : AHeap} {L : List Chunk}, Own h.asOld hh L → Script hh (.slice va l.length vc) l := fun o => Sl.of_old hs hb o
  (repeat' first
    | refine AWP.seq ?_
    | refine AWP.block ?_
    | (refine AWP.skip ?_; try dsimp only [thn, inBlk])
    | (refine AWP.exit ?_; try simp only [thn, inBlk, if_true])
    | (refine AWP.ret ?_; try dsimp only [thn, inBlk])
    | (refine AWP.condT ?_ ?_; (focus (simp [go_sem]; done)))
    | (refine AWP.condF ?_ ?_; (focus (simp [go_sem]; done)))
    | (apply AWP.rE; (focus (simp [go_sem]; exact ⟨rfl, rfl⟩)); try dsimp only [thn, inBlk])
    | fail)
  refine AWP.callE (by simp [go_sem]; exact ⟨rfl, rfl, rfl, rfl, rfl⟩) (by kernel_rfl) ?_
  refine (speaks_calls k0).mono ?_
  rintro r h1 ⟨rfl, k1⟩
  refine awpL_restE (by simp [go_sem]; exact ⟨rfl, rfl⟩) ?_; try dsimp only [thn, inBlk]
  (repeat' first
    | refine AWP.seq ?_
    | refine AWP.block ?_
    | (refine AWP.skip ?_; try dsimp only [thn, inBlk])
    | (refine AWP.exit ?_; try simp only [thn, inBlk, if_true])
    | (refine AWP.ret ?_; try dsimp only [thn, inBlk])
    | (refine AWP.condT ?_ ?_; (focus (simp [go_sem]; done)))
    | (refine AWP.condF ?_ ?_; (focus (simp [go_sem]; done)))
    | (apply AWP.rE; (focus (simp [go_sem]; exact ⟨rfl, rfl⟩)); try dsimp only [thn, inBlk])
    | fail)
  refine AWP.callE (by simp [go_sem]; exact ⟨rfl, rfl, rfl, rfl, rfl⟩) (by kernel_rfl) ?_
  refine (great_calls k1 (fun hh kk => HS kk) hw).mono ?_
  rintro r h2 ⟨rfl, k2⟩
  by_cases hsm : Small l
  rotate_left
  · refine awpL_restE (by simp [go_sem]; exact ⟨rfl, rfl⟩) ?_; try dsimp only [thn, inBlk]
    (repeat' first
      | refine AWP.seq ?_
      | refine AWP.block ?_
      | (refine AWP.skip ?_; try dsimp only [thn, inBlk])
      | (refine AWP.exit ?_; try simp only [thn, inBlk, if_true])
      | (refine AWP.ret ?_; try dsimp only [thn, inBlk])
      | (refine AWP.condT ?_ ?_; (focus (simp [go_sem, hsm]; done)))
      | (refine AWP.condF ?_ ?_; (focus (simp [go_sem, hsm]; done)))
      | (apply AWP.rE; (focus (simp [go_sem, hsm]; exact ⟨rfl, rfl⟩)); try dsimp only [thn, inBlk])
      | fail)
    simp [bodyQ, thn, inBlk, resA, resV, go_sem]
  refine awpL_restE (by simp [go_sem]; exact ⟨rfl, rfl⟩) ?_; try dsimp only [thn, inBlk]
  (repeat' first
    | refine AWP.seq ?_
    | refine AWP.block ?_
    | (refine AWP.skip ?_; try dsimp only [thn, inBlk])
    | (refine AWP.exit ?_; try simp only [thn, inBlk, if_true])
    | (refine AWP.ret ?_; try dsimp only [thn, inBlk])
    | (refine AWP.condT ?_ ?_; (focus (simp [go_sem, hsm]; done)))
    | (refine AWP.condF ?_ ?_; (focus (simp [go_sem, hsm]; done)))
    | (apply AWP.rE; (focus (simp [go_sem, hsm]; exact ⟨rfl, rfl⟩)); try dsimp only [thn, inBlk])
    | fail)
  refine AWP.callE (by simp [go_sem]; exact ⟨rfl, rfl, rfl, rfl, rfl⟩) (by kernel_rfl) ?_
  refine (new_calls k2 begin).mono ?_
  rintro r h3 ⟨i, rfl, k3⟩
  refine awpL_restE (by simp [go_sem]; exact ⟨rfl, rfl⟩) ?_; try dsimp only [thn, inBlk]
  (repeat' first
    | refine AWP.seq ?_
    | refine AWP.block ?_
    | (refine AWP.skip ?_; try dsimp only [thn, inBlk])
    | (refine AWP.exit ?_; try simp only [thn, inBlk, if_true])
    | (refine AWP.ret ?_; try dsimp only [thn, inBlk])
    | (refine AWP.condT ?_ ?_; (focus (simp [go_sem]; done)))
    | (refine AWP.condF ?_ ?_; (focus (simp [go_sem]; done)))
    | (apply AWP.rE; (focus (simp [go_sem]; exact ⟨rfl, rfl⟩)); try dsimp only [thn, inBlk])
    | fail)
  have k4 : Own _ _ (rch h3.next [] false 0 :: _) := rch_iff.2 ⟨.slice none 0 0, ((k3.push (rrow (.slice none 0 0) false 0)).nil 35 19).b1⟩
  have hlen := hsm.1
  refine AWP.loopR [5, 6, 19, 20, 21] (fun m s h' => ∃ (j : Nat) (L : List Au) (c : Bool) (u u' : Int), j ≤ l.length ∧ m = l.length - j ∧ s = ⟨57, [(5, ptr i), (6, ptr h3.next), (19, .slice va l.length vc), (20, .int .i64 l.length), (21, .int .i64 j)]⟩ ∧
    Cok L u ∧ Cok L u' ∧ (c = true → u = u') ∧ Own h.asOld h' [cch i L c u, rch h3.next L c u']) ?_ ?_
  · exact ⟨_, 0, [], false, begin, 0, by omega, rfl, by simp [go_sem], Cok.nil hbg, Cok.nil ⟨by omega, by omega⟩, fun e => (by cases e), k4.b1⟩
  rintro m s h' ⟨j, L, c, u, u', hj, rfl, rfl, ku, ku', huu, kt⟩
  by_cases hj2 : j < l.length
  rotate_left
  · have hj3 : ¬ (j : Int) < l.length := by omega
    (repeat' first
      | refine AWP.seq ?_
      | refine AWP.block ?_
      | (refine AWP.skip ?_; try dsimp only [thn, inBlk])
      | (refine AWP.exit ?_; try simp only [thn, inBlk, if_true])
      | (refine AWP.ret ?_; try dsimp only [thn, inBlk])
      | (refine AWP.condT ?_ ?_; (focus (simp [go_sem, hj3]; done)))
      | (refine AWP.condF ?_ ?_; (focus (simp [go_sem, hj3]; done)))
      | (apply AWP.rE; (focus (simp [go_sem, hj3]; exact ⟨rfl, rfl⟩)); try dsimp only [thn, inBlk])
      | fail)
    simp [bodyQ, thn, inBlk, resA, resV, go_sem]
  have hj3 : (j : Int) < l.length := by omega
  have wj : IntKind.i64.wrap ((j : Int) + 1) = ((j + 1 : Nat) : Int) := by rw [wI64 (by omega) (by omega)]; omega
  obtain ⟨bi, bo, bc, be, bz, bt, br, p0, q0, g3, g2⟩ := (HS kt).at hw hj2
  have hx := hw _ (List.getElem_mem hj2)
  have hcl : l[j].a.cl.length ≤ 100 := hsm.2 _ (List.getElem_mem hj2)
  have hko := opc_ok l[j]
  have hks := opc_set hx
  have hkl := opc_len hx
  have hg0 := opc_g0 l[j]
  have hg20 := opc_g20 hx
  have hau := opc_tail hx
  have q0' : (h'.push (.row [.bool false, .string ⟨#[]⟩, .int .i64 0, .int .u64 0, .int .u8 0, .int .u8 0, .int .u8 0, .int .u8 0, .int .u8 0, .int .u8 0, .int .u8 0, .int .u8 0, .int .u8 0, .int .u8 0, .int .u8 0, .int .u8 0, .int .u8 0, .int .u8 0, .int .u8 0, .int .u8 0, .int .i64 0] 37 21 true false)).obj bi = some (.row bc be bz bt br) := by
    rw [push_ne _ _ _ (fun e => by rw [e, kt.bnd _ (Nat.le_refl _)] at q0; cases q0)]; exact q0
  have k2 := kt.push (.row (opc l[j]) 37 21 true false)
  generalize l[j] = o at *
  have t8 := k2.obj
  cases hr : o.r with
  | true =>
    rw [hr] at hg0
    (repeat' first
      | refine AWP.seq ?_
      | refine AWP.block ?_
      | (refine AWP.skip ?_; try dsimp only [thn, inBlk])
      | (refine AWP.exit ?_; try simp only [thn, inBlk, if_true])
      | (refine AWP.ret ?_; try dsimp only [thn, inBlk])
      | (refine AWP.condT ?_ ?_; (focus (simp [go_sem, hj3, p0, q0, q0', g3, g2, hko, hks, hkl, hg0, hg20]; done)))
      | (refine AWP.condF ?_ ?_; (focus (simp [go_sem, hj3, p0, q0, q0', g3, g2, hko, hks, hkl, hg0, hg20]; done)))
      | (apply AWP.rE; (focus (simp [go_sem, hj3, p0, q0, q0', g3, g2, hko, hks, hkl, hg0, hg20]; exact ⟨rfl, rfl⟩)); try dsimp only [thn, inBlk])
      | fail)
    refine AWP.callE (by simp [go_sem, t8, hg20, hkl]; exact ⟨rfl, rfl, rfl, rfl, rfl⟩) (by kernel_rfl) ?_
    refine (restart_calls (now := o.now) k2.b1).mono ?_
    rintro r h5 k5
    have t9 := k5.b1.obj
    refine awpL_restE (by simp [go_sem]; exact ⟨rfl, rfl⟩) ?_; try dsimp only [thn, inBlk]
    (repeat' first
      | refine AWP.seq ?_
      | refine AWP.block ?_
      | (refine AWP.skip ?_; try dsimp only [thn, inBlk])
      | (refine AWP.exit ?_; try simp only [thn, inBlk, if_true])
      | (refine AWP.ret ?_; try dsimp only [thn, inBlk])
      | (refine AWP.condT ?_ ?_; (focus (simp [go_sem]; done)))
      | (refine AWP.condF ?_ ?_; (focus (simp [go_sem]; done)))
      | (apply AWP.rE; (focus (simp [go_sem]; exact ⟨rfl, rfl⟩)); try dsimp only [thn, inBlk])
      | fail)
    refine AWP.callE (by simp [go_sem, t9, hg20, hkl]; exact ⟨rfl, rfl, rfl, rfl, rfl⟩) (by kernel_rfl) ?_
    refine (refRestart_calls (now := o.now) k5.b2).mono ?_
    rintro r h6 k6
    have KK := k6.b1
    refine awpL_restE (by simp [go_sem]; exact ⟨rfl, rfl⟩) ?_; try dsimp only [thn, inBlk]
    (repeat' first
      | refine AWP.seq ?_
      | refine AWP.block ?_
      | (refine AWP.skip ?_; try dsimp only [thn, inBlk])
      | (refine AWP.exit ?_; try simp only [thn, inBlk, if_true])
      | (refine AWP.ret ?_; try dsimp only [thn, inBlk])
      | (refine AWP.condT ?_ ?_; (focus (simp [go_sem]; done)))
      | (refine AWP.condF ?_ ?_; (focus (simp [go_sem]; done)))
      | (apply AWP.rE; (focus (simp [go_sem]; exact ⟨rfl, rfl⟩)); try dsimp only [thn, inBlk])
      | fail)
    obtain ⟨w, kr⟩ := rch_iff.1 KK.b1
    obtain ⟨wa, wc, rfl⟩ := kr.b1.os_val
    have cr := kr.obj
    refine AWP.draw hmix [.n 0 [5], .n 2 [6], .n 3 [50], .n 4 [51], .n 5 [52], .n 6 [53], .w 1 [48] [5, 6], .n 7 [49, 54]] (by kernel_rfl) ?_
    refine awpD_callR 6 (by rfl) (by rfl) (by simp [go_sem, cr]; exact ⟨rfl, rfl, rfl⟩) (by rfl) (by rfl) (by simp [go_sem]) (by simp [go_sem, cr]; exact ⟨rfl, rfl⟩) (by kernel_rfl) ?_
    refine (len_calls KK).mono ?_
    rintro r h9 ⟨rfl, rfl⟩
    refine ⟨by simp [still, go_sem, cr], ?_⟩
    refine awpD_restR (by rfl) (by simp [go_sem]; exact ⟨rfl, rfl, rfl⟩) ?_; try dsimp only [thn, inBlk]
    (repeat' first
      | refine AWP.seq ?_
      | refine AWP.block ?_
      | (refine AWP.skip ?_; try dsimp only [thn, inBlk])
      | (refine AWP.exit ?_; try simp only [thn, inBlk, if_true])
      | (refine AWP.ret ?_; try dsimp only [thn, inBlk])
      | (refine AWP.condT ?_ ?_; (focus (simp [go_sem, wj]; done)))
      | (refine AWP.condF ?_ ?_; (focus (simp [go_sem, wj]; done)))
      | (apply AWP.rE; (focus (simp [go_sem, wj]; exact ⟨rfl, rfl⟩)); try dsimp only [thn, inBlk])
      | fail)
    refine ⟨l.length - (j + 1), by omega, j + 1, [], true, unt c u o.now, unt c u' o.now, by omega, rfl, by simp [go_sem], Cok.nil (unt_i64 ku.un hx.now), Cok.nil (unt_i64 ku'.un hx.now), fun _ => unt_eq huu, ?_⟩
    (refine Own.sbl ?_ (KK); repeat' first | exact Sbl.nil _ | with_reducible exact Sbl.rfl _ | (apply Sbl.cons) | (apply Sbl.skip) | with_reducible exact Fnd.head _ _ | (apply Fnd.tail))
  | false =>
    rw [hr] at hg0
    (repeat' first
      | refine AWP.seq ?_
      | refine AWP.block ?_
      | (refine AWP.skip ?_; try dsimp only [thn, inBlk])
      | (refine AWP.exit ?_; try simp only [thn, inBlk, if_true])
      | (refine AWP.ret ?_; try dsimp only [thn, inBlk])
      | (refine AWP.condT ?_ ?_; (focus (simp [go_sem, hj3, p0, q0, q0', g3, g2, hko, hks, hkl, hg0, hg20]; done)))
      | (refine AWP.condF ?_ ?_; (focus (simp [go_sem, hj3, p0, q0, q0', g3, g2, hko, hks, hkl, hg0, hg20]; done)))
      | (apply AWP.rE; (focus (simp [go_sem, hj3, p0, q0, q0', g3, g2, hko, hks, hkl, hg0, hg20]; exact ⟨rfl, rfl⟩)); try dsimp only [thn, inBlk])
      | fail)
    refine AWP.draw hmix [.n 0 [5], .n 1 [8], .n 2 [36], .n 3 [8], .n 4 [38], .n 6 [6], .n 7 [8], .n 8 [42], .n 9 [8], .n 10 [44], .w 5 [35, 37, 39] [8, 10], .w 11 [41, 43, 45] [], .n 12 [40, 46]] (by kernel_rfl) ?_
    refine awpD_callR 10 (by rfl) (by rfl) (by simp [go_sem, t8, hg20, hkl, hau]; exact ⟨rfl, rfl, rfl⟩) (by rfl) (by rfl) (by simp [go_sem]) (by simp [go_sem, t8, hg20, hkl, hau]; exact ⟨rfl, rfl⟩) (by kernel_rfl) ?_
    refine (seen_calls (a := o.a) (now := o.now) k2.b1 ku (hx.a.ok hcl) hx.now).mono ?_
    rintro r h5 ⟨rfl, k5⟩
    have t9 := k5.b1.obj
    refine ⟨by simp [still, go_sem, t8, t9, hg20, hkl, hau], ?_⟩
    refine awpD_callR 0 (by rfl) (by rfl) (by simp [go_sem, t9, hg20, hkl, hau]; exact ⟨rfl, rfl, rfl⟩) (by rfl) (by rfl) (by simp [go_sem]) (by simp [go_sem, t9, hg20, hkl, hau]; exact ⟨rfl, rfl⟩) (by kernel_rfl) ?_
    refine (refSeen_calls (a := o.a) (now := o.now) k5.b2 ku' (hx.a.ok hcl) hx.now).mono ?_
    rintro r h6 ⟨rfl, k6⟩
    refine ⟨by simp [still], ?_⟩
    have hes := seen_u L (u := u) (u' := u') huu o.a o.now
    have kc1 := ku.seen (c := c) (hx.a.ok hcl) o.now
    have kc2 := ku'.seen (c := c) (hx.a.ok hcl) o.now
    rw [← hes] at k6 kc2 ⊢
    generalize seenR L c u o.a o.now = E at *
    have KK := k6.b1
    refine awpD_restR (by rfl) (by simp [go_sem]; exact ⟨rfl, rfl, rfl⟩) ?_; try dsimp only [thn, inBlk]
    (repeat' first
      | refine AWP.seq ?_
      | refine AWP.block ?_
      | (refine AWP.skip ?_; try dsimp only [thn, inBlk])
      | (refine AWP.exit ?_; try simp only [thn, inBlk, if_true])
      | (refine AWP.ret ?_; try dsimp only [thn, inBlk])
      | (refine AWP.condT ?_ ?_; (focus (simp [go_sem]; done)))
      | (refine AWP.condF ?_ ?_; (focus (simp [go_sem]; done)))
      | (apply AWP.rE; (focus (simp [go_sem]; exact ⟨rfl, rfl⟩)); try dsimp only [thn, inBlk])
      | fail)
    obtain ⟨w, kr⟩ := rch_iff.1 KK.b1
    obtain ⟨wa, wc, rfl⟩ := kr.b1.os_val
    have cr := kr.obj
    refine AWP.draw hmix [.n 0 [5], .n 2 [6], .n 3 [50], .n 4 [51], .n 5 [52], .n 6 [53], .w 1 [48] [5, 6], .n 7 [49, 54]] (by kernel_rfl) ?_
    refine awpD_callR 6 (by rfl) (by rfl) (by simp [go_sem, cr]; exact ⟨rfl, rfl, rfl⟩) (by rfl) (by rfl) (by simp [go_sem]) (by simp [go_sem, cr]; exact ⟨rfl, rfl⟩) (by kernel_rfl) ?_
    refine (len_calls KK).mono ?_
    rintro r h9 ⟨rfl, rfl⟩
    refine ⟨by simp [still, go_sem, cr], ?_⟩
    refine awpD_restR (by rfl) (by simp [go_sem]; exact ⟨rfl, rfl, rfl⟩) ?_; try dsimp only [thn, inBlk]
    (repeat' first
      | refine AWP.seq ?_
      | refine AWP.block ?_
      | (refine AWP.skip ?_; try dsimp only [thn, inBlk])
      | (refine AWP.exit ?_; try simp only [thn, inBlk, if_true])
      | (refine AWP.ret ?_; try dsimp only [thn, inBlk])
      | (refine AWP.condT ?_ ?_; (focus (simp [go_sem, wj]; done)))
      | (refine AWP.condF ?_ ?_; (focus (simp [go_sem, wj]; done)))
      | (apply AWP.rE; (focus (simp [go_sem, wj]; exact ⟨rfl, rfl⟩)); try dsimp only [thn, inBlk])
      | fail)
    refine ⟨l.length - (j + 1), by omega, j + 1, E.2, c, u, u', by omega, rfl, by simp [go_sem], kc1, kc2, huu, ?_⟩
    (refine Own.sbl ?_ (KK); repeat' first | exact Sbl.nil _ | with_reducible exact Sbl.rfl _ | (apply Sbl.cons) | (apply Sbl.skip) | with_reducible exact Fnd.head _ _ | (apply Fnd.tail))
end L12
