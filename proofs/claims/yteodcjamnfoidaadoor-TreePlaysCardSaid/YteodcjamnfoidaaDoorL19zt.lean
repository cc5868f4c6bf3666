import Derived.Test.YteodcjamnfoidaaDoorL19zs
open Go Ab Go.Proofs
namespace L19
set_option autoImplicit false
set_option linter.unusedSimpArgs false
set_option linter.unusedVariables false

theorem RT.top : RT [L19.top] [L19.top] := ⟨by simp, fun x => Iff.rfl⟩
set_option maxHeartbeats 32000000 in
theorem plays_calls {h : AHeap} {v : Value} {s1 : List Op} (hb : h.base = h.next) (hp : BR preO 6 h v s1) (hn1 : s1.length ≤ 9223372036854775807) :
    ACalls Tryd.prog 8 #[v] h fun r _ => r = .bool true := by
  refine Own.of_wf fun k0 => ?_
  obtain ⟨ac1, la1, sl1, bd1⟩ := id hp
  have A1 : OpsA h v s1 ac1 := ⟨la1, sl1, bd1⟩
  obtain ⟨va, vc, rfl⟩ := hp.val
  refine ACalls.of_awp (args := [.slice va s1.length vc]) (n := 150) Tryd.func8 rfl rfl (by show 1 ≤ 150; omega) ?_
  (repeat' first
    | refine AWP.seq ?_
    | refine AWP.block ?_
    | (refine AWP.skip ?_; try dsimp only [thn, inBlk])
    | (refine AWP.exit ?_; try simp only [thn, inBlk, if_true, reduceIte, Nat.reduceEqDiff])
    | (refine AWP.ret ?_; try dsimp only [thn, inBlk])
    | (refine AWP.condT ?_ ?_; (focus (simp [go_sem]; done)))
    | (refine AWP.condF ?_ ?_; (focus (simp [go_sem]; done)))
    | (apply AWP.rE; (focus (simp [go_sem]; exact ⟨rfl, rfl⟩)); try dsimp only [thn, inBlk])
    | fail)
  refine AWP.callE (by simp [go_sem]; exact ⟨rfl, rfl, rfl, rfl, rfl⟩) (by kernel_rfl) ?_
  refine (speaks_calls k0).mono ?_
  rintro r h1 ⟨rfl, k1⟩
  refine awpL_restE (by simp [go_sem]; exact ⟨rfl, rfl⟩) ?_; try dsimp only [thn, inBlk]
  (repeat' first
    | refine AWP.seq ?_
    | refine AWP.block ?_
    | (refine AWP.skip ?_; try dsimp only [thn, inBlk])
    | (refine AWP.exit ?_; try simp only [thn, inBlk, if_true, reduceIte, Nat.reduceEqDiff])
    | (refine AWP.ret ?_; try dsimp only [thn, inBlk])
    | (refine AWP.condT ?_ ?_; (focus (simp [go_sem]; done)))
    | (refine AWP.condF ?_ ?_; (focus (simp [go_sem]; done)))
    | (apply AWP.rE; (focus (simp [go_sem]; exact ⟨rfl, rfl⟩)); try dsimp only [thn, inBlk])
    | fail)
  refine AWP.callE (by simp [go_sem]; exact ⟨rfl, rfl, rfl, rfl, rfl⟩) (by kernel_rfl) ?_
  refine (great_calls k1 (fun hh kk => hp.of_old hb kk) hn1).mono ?_
  rintro r h2 ⟨b1, rfl, g1, k2⟩
  cases b1
  rotate_left
  · refine awpL_restE (by simp [go_sem]; exact ⟨rfl, rfl⟩) ?_; try dsimp only [thn, inBlk]
    (repeat' first
      | refine AWP.seq ?_
      | refine AWP.block ?_
      | (refine AWP.skip ?_; try dsimp only [thn, inBlk])
      | (refine AWP.exit ?_; try simp only [thn, inBlk, if_true, reduceIte, Nat.reduceEqDiff])
      | (refine AWP.ret ?_; try dsimp only [thn, inBlk])
      | (refine AWP.condT ?_ ?_; (focus (simp [go_sem]; done)))
      | (refine AWP.condF ?_ ?_; (focus (simp [go_sem]; done)))
      | (apply AWP.rE; (focus (simp [go_sem]; exact ⟨rfl, rfl⟩)); try dsimp only [thn, inBlk])
      | fail)
    simp [bodyQ, thn, inBlk, resA, resV, go_sem]
  obtain ⟨l1, o1⟩ := g1 rfl
  refine awpL_restE (by simp [go_sem]; exact ⟨rfl, rfl⟩) ?_; try dsimp only [thn, inBlk]
  (repeat' first
    | refine AWP.seq ?_
    | refine AWP.block ?_
    | (refine AWP.skip ?_; try dsimp only [thn, inBlk])
    | (refine AWP.exit ?_; try simp only [thn, inBlk, if_true, reduceIte, Nat.reduceEqDiff])
    | (refine AWP.ret ?_; try dsimp only [thn, inBlk])
    | (refine AWP.condT ?_ ?_; (focus (simp [go_sem]; done)))
    | (refine AWP.condF ?_ ?_; (focus (simp [go_sem]; done)))
    | (apply AWP.rE; (focus (simp [go_sem]; exact ⟨rfl, rfl⟩)); try dsimp only [thn, inBlk])
    | fail)
  refine AWP.callE (by simp [go_sem]; exact ⟨rfl, rfl, rfl, rfl, rfl⟩) (by kernel_rfl) ?_
  refine (new_calls k2).mono ?_
  rintro r h4 ⟨i, rfl, k4⟩
  refine awpL_toCall (by simp [go_sem]; exact ⟨rfl, rfl, rfl, rfl, rfl⟩) (by kernel_rfl) ?_
  refine (rnew_calls k4).mono ?_
  rintro r h5 ⟨ib, rfl, k5⟩
  refine awpL_restE (by simp [go_sem]; exact ⟨rfl, rfl⟩) ?_; try dsimp only [thn, inBlk]
  (repeat' first
    | refine AWP.seq ?_
    | refine AWP.block ?_
    | (refine AWP.skip ?_; try dsimp only [thn, inBlk])
    | (refine AWP.exit ?_; try simp only [thn, inBlk, if_true, reduceIte, Nat.reduceEqDiff])
    | (refine AWP.ret ?_; try dsimp only [thn, inBlk])
    | (refine AWP.condT ?_ ?_; (focus (simp [go_sem]; done)))
    | (refine AWP.condF ?_ ?_; (focus (simp [go_sem]; done)))
    | (apply AWP.rE; (focus (simp [go_sem]; exact ⟨rfl, rfl⟩)); try dsimp only [thn, inBlk])
    | fail)
  refine AWP.loopR [3, 4, 19, 20, 21] (fun m s h' => ∃ (j : Nat) (T xs : TL), j ≤ s1.length ∧ m = s1.length - j ∧ s = ⟨150, [(3, ptr i), (4, ptr ib), (19, .slice va s1.length vc), (20, .int .i64 s1.length), (21, .int .i64 j)]⟩ ∧ TS T ∧ RT T xs ∧ Own h.asOld h' [tr i T, rts ib xs]) ?_ ?_
  · exact ⟨_, 0, _, _, by omega, rfl, rfl, TS.top, RT.top, k5.b1⟩
  rintro m s hB ⟨j, T, xs, hj, rfl, rfl, hT, hr, kB⟩
  by_cases hjm : j < s1.length
  rotate_left
  · have hjm' : ¬ (j : Int) < s1.length := by omega
    (repeat' first
      | refine AWP.seq ?_
      | refine AWP.block ?_
      | (refine AWP.skip ?_; try dsimp only [thn, inBlk])
      | (refine AWP.exit ?_; try simp only [thn, inBlk, if_true, reduceIte, Nat.reduceEqDiff])
      | (refine AWP.ret ?_; try dsimp only [thn, inBlk])
      | (refine AWP.condT ?_ ?_; (focus (simp [go_sem, hjm']; done)))
      | (refine AWP.condF ?_ ?_; (focus (simp [go_sem, hjm']; done)))
      | (apply AWP.rE; (focus (simp [go_sem, hjm']; exact ⟨rfl, rfl⟩)); try dsimp only [thn, inBlk])
      | fail)
    simp [bodyQ, thn, inBlk, resA, resV, go_sem]
  have hjm' : (j : Int) < s1.length := by omega
  have hoj : s1[j]? = some s1[j] := List.getElem?_eq_getElem hjm
  have haj : ac1[j]? = some (ac1[j]'(by omega)) := List.getElem?_eq_getElem (by omega)
  have hOB := o1 _ (List.getElem_mem hjm)
  obtain ⟨i0, f0, c0, e0, z0, ti0, ro0, p0, q0, m0, t0⟩ := ops_row A1 hb kB hoj haj (kd := .i64)
  have hbd := bd1 j _ _ hoj haj
  generalize s1[j] = o at t0 hOB hbd
  generalize (ac1[j]'(by omega)) = p at t0 hbd
  obtain ⟨⟨ok, om, ow, op, oo⟩, od⟩ := o
  obtain ⟨pa, pc⟩ := p
  have hb1 := hOB.dl
  have hb2 := hOB.pl
  have hb3 := hOB.wl
  have hb4 := hOB.ol
  dsimp only [orow] at t0 hb1 hb2 hb3 hb4 hbd
  have w1 : IntKind.i64.wrap ((j : Int) + 1) = ((j + 1 : Nat) : Int) := by rw [wI64 (by omega) (by omega)]; omega
  have k6 := kB.push (.row [.int .i64 ok, .int .i64 om, tx ow, tx op, tx oo, .slice pa od.length pc] 37 6 true false)
  have c6 := k6.obj
  obtain ⟨K, hK1, wK⟩ := and_mask ok 7 (by omega)
  obtain ⟨a9, n9, h9, e9, k9⟩ := k6.copy (P := Tryd.prog) (t := 22) (xt := 22) (xv := .slice pa od.length pc) (xs := od) (i := hB.next + 1) Tryd.underlying22 tsz5 tby5 tz5 nI22 (fun hh kk => hbd.of_old hb kk) (by omega) rfl
  have c6' := (k6.push (.row [] 5 1 true false)).b1.obj
  have c9 := k9.b1.obj
  refine AWP.seq ?_
  (apply AWP.rE; (focus (simp [go_sem, hjm', hjm]; exact ⟨rfl, rfl⟩)); try dsimp only [thn, inBlk])
  refine AWP.seq ?_
  (first | (refine AWP.condT ?_ ?_; (focus (simp [go_sem, hjm', hjm]; done))) | (refine AWP.condF ?_ ?_; (focus (simp [go_sem, hjm', hjm]; done))))
  refine AWP.skip ?_
  dsimp only [thn, inBlk]
  refine AWP.seq ?_
  refine AWP.block ?_
  refine AWP.seq ?_
  (apply AWP.rE; (focus (simp [go_sem, p0, q0, m0, t0, c6]; exact ⟨rfl, rfl⟩)); try dsimp only [thn, inBlk])
  refine AWP.seq ?_
  (apply AWP.rE; (focus (simp [go_sem]; exact ⟨rfl, rfl⟩)); try dsimp only [thn, inBlk])
  refine AWP.seq ?_
  (apply AWP.rE; (focus (simp [go_sem, c6, c6', e9]; exact ⟨rfl, rfl⟩)); try dsimp only [thn, inBlk])
  refine AWP.seq ?_
  refine AWP.seq ?_
  (apply AWP.rE; (focus (simp [go_sem, c9, wK]; exact ⟨rfl, rfl⟩)); try dsimp only [thn, inBlk])
  generalize hO5 : AObj.row [.int .i64 ok, .int .i64 om, tx ow, tx op, tx oo, .slice pa od.length pc] 37 6 true false = O5 at k9
  generalize hB.next = io at *
  have hX := hr.rx hT
  have hPx := hr.pa hT
  have htp := hr.tp hT
  have k9' : Own h.asOld h9 [tr i T, ob 5 (.slice a9 od.length n9) od, rts ib xs, cell io O5] := by
    (refine Own.sbl ?_ (k9); repeat' first | exact Sbl.nil _ | with_reducible exact Sbl.rfl _ | (apply Sbl.cons) | (apply Sbl.skip) | with_reducible exact Fnd.head _ _ | (apply Fnd.tail))
  refine AWP.cutT [3, 4, 6, 9, 7, 8, 19, 20, 21] (fun s h' => ∃ (z : Int) (T' xs' : TL), s = ⟨150, [(3, ptr i), (4, ptr ib), (6, ptr io), (9, .slice a9 od.length n9), (7, .int .i64 z), (8, .int .i64 z), (19, .slice va s1.length vc), (20, .int .i64 s1.length), (21, .int .i64 j)]⟩ ∧ TS T' ∧ RT T' xs' ∧ Own h.asOld h' [tr i T', ob 5 (.slice a9 od.length n9) od, rts ib xs', cell io O5]) ?_ ?_
  · have b8 : True := trivial
    have hKc : K = 0 ∨ K = 1 ∨ K = 2 ∨ K = 3 ∨ K = 4 ∨ 5 ≤ K := by omega
    rcases hKc with rfl | rfl | rfl | rfl | rfl | hK5
    · have b9 : True := trivial
      (repeat' first
        | refine AWP.seq ?_
        | refine AWP.block ?_
        | (refine AWP.skip ?_; try dsimp only [thn, inBlk])
        | (refine AWP.exit ?_; try simp only [thn, inBlk, if_true, reduceIte, Nat.reduceEqDiff])
        | (refine AWP.ret ?_; try dsimp only [thn, inBlk])
        | (refine AWP.condT ?_ ?_; (focus (simp [go_sem, b9]; done)))
        | (refine AWP.condF ?_ ?_; (focus (simp [go_sem, b9]; done)))
        | (apply AWP.rE; (focus (simp [go_sem, b9]; exact ⟨rfl, rfl⟩)); try dsimp only [thn, inBlk])
        | fail)
      refine AWP.draw hmix [.n 0 [3], .n 1 [6], .n 2 [54], .n 3 [6], .n 4 [56], .n 6 [4], .n 7 [6], .n 8 [60], .n 9 [6], .n 10 [62], .w 5 [53, 55, 57] [8, 10], .w 11 [59, 61, 63] [], .n 12 [58], .n 13 [64]] (by kernel_rfl) ?_
      refine awpD_callR 10 (by rfl) (by rfl) (by simp [go_sem, c9]; exact ⟨rfl, rfl, rfl⟩) (by rfl) (by rfl) (by simp [go_sem]) (by simp [go_sem, c9]; exact ⟨rfl, rfl⟩) (by kernel_rfl) ?_
      refine (remove_calls (who := ow) (p := op) hT.toTK k9' (by omega)).mono ?_
      rintro r h10 ⟨rfl, k10⟩
      have c10 := k10.b3.obj
      rw [← hO5] at c10
      refine ⟨by simp [still, go_sem, c9, c10], ?_⟩
      refine awpD_callR 0 (by rfl) (by rfl) (by simp [go_sem, c10]; exact ⟨rfl, rfl, rfl⟩) (by rfl) (by rfl) (by simp [go_sem]) (by simp [go_sem, c10]; exact ⟨rfl, rfl⟩) (by kernel_rfl) ?_
      refine (rremove_calls (who := ow) (p := op) hX hPx k10.b2 (by omega)).mono ?_
      rintro r h11 ⟨rfl, k11⟩
      have c11 := k11.b3.obj
      rw [← hO5] at c11
      refine ⟨by simp [still, go_sem, c10, c11], ?_⟩
      obtain ⟨e1, e2⟩ := hr.remove hT ow op
      rw [e1]
      have hT2 := hT.rm (who := ow) (p := op)
      generalize hza : (rmR T ow op).1 = za at *
      generalize (rmR T ow op).2 = T2 at *
      refine awpD_restR (by rfl) (by simp [go_sem]; exact ⟨rfl, rfl, rfl⟩) ?_; try dsimp only [thn, inBlk]
      (repeat' first
        | refine AWP.seq ?_
        | refine AWP.block ?_
        | (refine AWP.skip ?_; try dsimp only [thn, inBlk])
        | (refine AWP.exit ?_; try simp only [thn, inBlk, if_true, reduceIte, Nat.reduceEqDiff])
        | (refine AWP.ret ?_; try dsimp only [thn, inBlk])
        | (refine AWP.condT ?_ ?_; (focus (simp [go_sem]; done)))
        | (refine AWP.condF ?_ ?_; (focus (simp [go_sem]; done)))
        | (apply AWP.rE; (focus (simp [go_sem]; exact ⟨rfl, rfl⟩)); try dsimp only [thn, inBlk])
        | fail)
      refine ⟨za, T2, _, by simp [go_sem], hT2, e2, ?_⟩
      (refine Own.sbl ?_ (k11); repeat' first | exact Sbl.nil _ | with_reducible exact Sbl.rfl _ | (apply Sbl.cons) | (apply Sbl.skip) | with_reducible exact Fnd.head _ _ | (apply Fnd.tail))
    · have b9 : True := trivial
      (repeat' first
        | refine AWP.seq ?_
        | refine AWP.block ?_
        | (refine AWP.skip ?_; try dsimp only [thn, inBlk])
        | (refine AWP.exit ?_; try simp only [thn, inBlk, if_true, reduceIte, Nat.reduceEqDiff])
        | (refine AWP.ret ?_; try dsimp only [thn, inBlk])
        | (refine AWP.condT ?_ ?_; (focus (simp [go_sem, b9]; done)))
        | (refine AWP.condF ?_ ?_; (focus (simp [go_sem, b9]; done)))
        | (apply AWP.rE; (focus (simp [go_sem, b9]; exact ⟨rfl, rfl⟩)); try dsimp only [thn, inBlk])
        | fail)
      refine AWP.draw hmix [.n 0 [3], .n 1 [6], .n 2 [68], .n 3 [6], .n 4 [70], .n 5 [6], .n 6 [72], .n 8 [4], .n 9 [6], .n 10 [76], .n 11 [6], .n 12 [78], .n 13 [6], .n 14 [80], .w 7 [67, 69, 71, 73] [10, 12, 14], .w 15 [75, 77, 79, 81] [], .n 16 [74], .n 17 [82]] (by kernel_rfl) ?_
      refine awpD_callR 14 (by rfl) (by rfl) (by simp [go_sem, c9]; exact ⟨rfl, rfl, rfl⟩) (by rfl) (by rfl) (by simp [go_sem]) (by simp [go_sem, c9]; exact ⟨rfl, rfl⟩) (by kernel_rfl) ?_
      refine (chmod_calls (who := ow) (p := op) (z := om) hT.toTK k9' (by omega)).mono ?_
      rintro r h10 ⟨rfl, k10⟩
      have c10 := k10.b3.obj
      rw [← hO5] at c10
      refine ⟨by simp [still, go_sem, c9, c10], ?_⟩
      refine awpD_callR 0 (by rfl) (by rfl) (by simp [go_sem, c10]; exact ⟨rfl, rfl, rfl⟩) (by rfl) (by rfl) (by simp [go_sem]) (by simp [go_sem, c10]; exact ⟨rfl, rfl⟩) (by kernel_rfl) ?_
      refine (rchmod_calls (who := ow) (p := op) (z := om) hX k10.b2 (by omega)).mono ?_
      rintro r h11 ⟨rfl, k11⟩
      have c11 := k11.b3.obj
      rw [← hO5] at c11
      refine ⟨by simp [still, go_sem, c10, c11], ?_⟩
      obtain ⟨e1, e2⟩ := hr.chmod hT ow op om
      rw [e1]
      have hT2 := hT.ch (who := ow) (p := op) (z := om)
      generalize hza : (chR T ow op om).1 = za at *
      generalize (chR T ow op om).2 = T2 at *
      refine awpD_restR (by rfl) (by simp [go_sem]; exact ⟨rfl, rfl, rfl⟩) ?_; try dsimp only [thn, inBlk]
      (repeat' first
        | refine AWP.seq ?_
        | refine AWP.block ?_
        | (refine AWP.skip ?_; try dsimp only [thn, inBlk])
        | (refine AWP.exit ?_; try simp only [thn, inBlk, if_true, reduceIte, Nat.reduceEqDiff])
        | (refine AWP.ret ?_; try dsimp only [thn, inBlk])
        | (refine AWP.condT ?_ ?_; (focus (simp [go_sem]; done)))
        | (refine AWP.condF ?_ ?_; (focus (simp [go_sem]; done)))
        | (apply AWP.rE; (focus (simp [go_sem]; exact ⟨rfl, rfl⟩)); try dsimp only [thn, inBlk])
        | fail)
      refine ⟨za, T2, _, by simp [go_sem], hT2, e2, ?_⟩
      (refine Own.sbl ?_ (k11); repeat' first | exact Sbl.nil _ | with_reducible exact Sbl.rfl _ | (apply Sbl.cons) | (apply Sbl.skip) | with_reducible exact Fnd.head _ _ | (apply Fnd.tail))
    · have b9 : True := trivial
      (repeat' first
        | refine AWP.seq ?_
        | refine AWP.block ?_
        | (refine AWP.skip ?_; try dsimp only [thn, inBlk])
        | (refine AWP.exit ?_; try simp only [thn, inBlk, if_true, reduceIte, Nat.reduceEqDiff])
        | (refine AWP.ret ?_; try dsimp only [thn, inBlk])
        | (refine AWP.condT ?_ ?_; (focus (simp [go_sem, b9]; done)))
        | (refine AWP.condF ?_ ?_; (focus (simp [go_sem, b9]; done)))
        | (apply AWP.rE; (focus (simp [go_sem, b9]; exact ⟨rfl, rfl⟩)); try dsimp only [thn, inBlk])
        | fail)
      refine AWP.draw hmix [.n 0 [3], .n 1 [6], .n 2 [86], .n 3 [6], .n 4 [88], .n 5 [6], .n 6 [90], .n 8 [4], .n 9 [6], .n 10 [94], .n 11 [6], .n 12 [96], .n 13 [6], .n 14 [98], .w 7 [85, 87, 89, 91] [10, 12, 14], .w 15 [93, 95, 97, 99] [], .n 16 [92], .n 17 [100]] (by kernel_rfl) ?_
      refine awpD_callR 14 (by rfl) (by rfl) (by simp [go_sem, c9]; exact ⟨rfl, rfl, rfl⟩) (by rfl) (by rfl) (by simp [go_sem]) (by simp [go_sem, c9]; exact ⟨rfl, rfl⟩) (by kernel_rfl) ?_
      refine (give_calls (who := ow) (p := op) (o := oo) hT.toTK k9' (by omega)).mono ?_
      rintro r h10 ⟨rfl, k10⟩
      have c10 := k10.b3.obj
      rw [← hO5] at c10
      refine ⟨by simp [still, go_sem, c9, c10], ?_⟩
      refine awpD_callR 0 (by rfl) (by rfl) (by simp [go_sem, c10]; exact ⟨rfl, rfl, rfl⟩) (by rfl) (by rfl) (by simp [go_sem]) (by simp [go_sem, c10]; exact ⟨rfl, rfl⟩) (by kernel_rfl) ?_
      refine (rgive_calls (who := ow) (p := op) (o := oo) hX k10.b2 (by omega)).mono ?_
      rintro r h11 ⟨rfl, k11⟩
      have c11 := k11.b3.obj
      rw [← hO5] at c11
      refine ⟨by simp [still, go_sem, c10, c11], ?_⟩
      obtain ⟨e1, e2⟩ := hr.give hT ow op oo
      rw [e1]
      have hT2 := hT.gv (who := ow) (p := op) (o := oo) (by omega)
      generalize hza : (gvR T ow op oo).1 = za at *
      generalize (gvR T ow op oo).2 = T2 at *
      refine awpD_restR (by rfl) (by simp [go_sem]; exact ⟨rfl, rfl, rfl⟩) ?_; try dsimp only [thn, inBlk]
      (repeat' first
        | refine AWP.seq ?_
        | refine AWP.block ?_
        | (refine AWP.skip ?_; try dsimp only [thn, inBlk])
        | (refine AWP.exit ?_; try simp only [thn, inBlk, if_true, reduceIte, Nat.reduceEqDiff])
        | (refine AWP.ret ?_; try dsimp only [thn, inBlk])
        | (refine AWP.condT ?_ ?_; (focus (simp [go_sem]; done)))
        | (refine AWP.condF ?_ ?_; (focus (simp [go_sem]; done)))
        | (apply AWP.rE; (focus (simp [go_sem]; exact ⟨rfl, rfl⟩)); try dsimp only [thn, inBlk])
        | fail)
      refine ⟨za, T2, _, by simp [go_sem], hT2, e2, ?_⟩
      (refine Own.sbl ?_ (k11); repeat' first | exact Sbl.nil _ | with_reducible exact Sbl.rfl _ | (apply Sbl.cons) | (apply Sbl.skip) | with_reducible exact Fnd.head _ _ | (apply Fnd.tail))
    · have b9 : True := trivial
      (repeat' first
        | refine AWP.seq ?_
        | refine AWP.block ?_
        | (refine AWP.skip ?_; try dsimp only [thn, inBlk])
        | (refine AWP.exit ?_; try simp only [thn, inBlk, if_true, reduceIte, Nat.reduceEqDiff])
        | (refine AWP.ret ?_; try dsimp only [thn, inBlk])
        | (refine AWP.condT ?_ ?_; (focus (simp [go_sem, b9]; done)))
        | (refine AWP.condF ?_ ?_; (focus (simp [go_sem, b9]; done)))
        | (apply AWP.rE; (focus (simp [go_sem, b9]; exact ⟨rfl, rfl⟩)); try dsimp only [thn, inBlk])
        | fail)
      refine AWP.draw hmix [.n 0 [3], .n 1 [6], .n 2 [105], .n 3 [6], .n 4 [107], .n 5 [6], .n 6 [109], .n 8 [4], .n 9 [6], .n 10 [113], .n 11 [6], .n 12 [115], .n 13 [6], .n 14 [117], .w 7 [104, 106, 108, 110] [10, 12, 14], .w 15 [112, 114, 116, 118] [], .n 16 [111], .n 17 [119]] (by kernel_rfl) ?_
      refine awpD_callR 14 (by rfl) (by rfl) (by simp [go_sem, c9]; exact ⟨rfl, rfl, rfl⟩) (by rfl) (by rfl) (by simp [go_sem]) (by simp [go_sem, c9]; exact ⟨rfl, rfl⟩) (by kernel_rfl) ?_
      refine (mkdir_calls (who := ow) (p := op) (z := om) hT.toTK k9' (by omega)).mono ?_
      rintro r h10 ⟨rfl, k10⟩
      have c10 := k10.b3.obj
      rw [← hO5] at c10
      refine ⟨by simp [still, go_sem, c9, c10], ?_⟩
      refine awpD_callR 0 (by rfl) (by rfl) (by simp [go_sem, c10]; exact ⟨rfl, rfl, rfl⟩) (by rfl) (by rfl) (by simp [go_sem]) (by simp [go_sem, c10]; exact ⟨rfl, rfl⟩) (by kernel_rfl) ?_
      refine (rmkdir_calls (who := ow) (p := op) (z := om) hX htp k10.b2 (by omega)).mono ?_
      rintro r h11 ⟨rfl, k11⟩
      have c11 := k11.b3.obj
      rw [← hO5] at c11
      refine ⟨by simp [still, go_sem, c10, c11], ?_⟩
      obtain ⟨e1, e2⟩ := hr.mkdir hT ow op om
      rw [e1]
      have hT2 := hT.mkd (who := ow) (p := op) (z := om) hb2 (by omega)
      generalize hza : (mkR T ow op om).1 = za at *
      generalize (mkR T ow op om).2 = T2 at *
      refine awpD_restR (by rfl) (by simp [go_sem]; exact ⟨rfl, rfl, rfl⟩) ?_; try dsimp only [thn, inBlk]
      (repeat' first
        | refine AWP.seq ?_
        | refine AWP.block ?_
        | (refine AWP.skip ?_; try dsimp only [thn, inBlk])
        | (refine AWP.exit ?_; try simp only [thn, inBlk, if_true, reduceIte, Nat.reduceEqDiff])
        | (refine AWP.ret ?_; try dsimp only [thn, inBlk])
        | (refine AWP.condT ?_ ?_; (focus (simp [go_sem]; done)))
        | (refine AWP.condF ?_ ?_; (focus (simp [go_sem]; done)))
        | (apply AWP.rE; (focus (simp [go_sem]; exact ⟨rfl, rfl⟩)); try dsimp only [thn, inBlk])
        | fail)
      refine ⟨za, T2, _, by simp [go_sem], hT2, e2, ?_⟩
      (refine Own.sbl ?_ (k11); repeat' first | exact Sbl.nil _ | with_reducible exact Sbl.rfl _ | (apply Sbl.cons) | (apply Sbl.skip) | with_reducible exact Fnd.head _ _ | (apply Fnd.tail))
    · have b9 : True := trivial
      (repeat' first
        | refine AWP.seq ?_
        | refine AWP.block ?_
        | (refine AWP.skip ?_; try dsimp only [thn, inBlk])
        | (refine AWP.exit ?_; try simp only [thn, inBlk, if_true, reduceIte, Nat.reduceEqDiff])
        | (refine AWP.ret ?_; try dsimp only [thn, inBlk])
        | (refine AWP.condT ?_ ?_; (focus (simp [go_sem, b9]; done)))
        | (refine AWP.condF ?_ ?_; (focus (simp [go_sem, b9]; done)))
        | (apply AWP.rE; (focus (simp [go_sem, b9]; exact ⟨rfl, rfl⟩)); try dsimp only [thn, inBlk])
        | fail)
      refine AWP.draw hmix [.n 0 [3], .n 1 [6], .n 2 [105], .n 3 [6], .n 4 [107], .n 5 [6], .n 6 [109], .n 8 [4], .n 9 [6], .n 10 [113], .n 11 [6], .n 12 [115], .n 13 [6], .n 14 [117], .w 7 [104, 106, 108, 110] [10, 12, 14], .w 15 [112, 114, 116, 118] [], .n 16 [111], .n 17 [119]] (by kernel_rfl) ?_
      refine awpD_callR 14 (by rfl) (by rfl) (by simp [go_sem, c9]; exact ⟨rfl, rfl, rfl⟩) (by rfl) (by rfl) (by simp [go_sem]) (by simp [go_sem, c9]; exact ⟨rfl, rfl⟩) (by kernel_rfl) ?_
      refine (mkdir_calls (who := ow) (p := op) (z := om) hT.toTK k9' (by omega)).mono ?_
      rintro r h10 ⟨rfl, k10⟩
      have c10 := k10.b3.obj
      rw [← hO5] at c10
      refine ⟨by simp [still, go_sem, c9, c10], ?_⟩
      refine awpD_callR 0 (by rfl) (by rfl) (by simp [go_sem, c10]; exact ⟨rfl, rfl, rfl⟩) (by rfl) (by rfl) (by simp [go_sem]) (by simp [go_sem, c10]; exact ⟨rfl, rfl⟩) (by kernel_rfl) ?_
      refine (rmkdir_calls (who := ow) (p := op) (z := om) hX htp k10.b2 (by omega)).mono ?_
      rintro r h11 ⟨rfl, k11⟩
      have c11 := k11.b3.obj
      rw [← hO5] at c11
      refine ⟨by simp [still, go_sem, c10, c11], ?_⟩
      obtain ⟨e1, e2⟩ := hr.mkdir hT ow op om
      rw [e1]
      have hT2 := hT.mkd (who := ow) (p := op) (z := om) hb2 (by omega)
      generalize hza : (mkR T ow op om).1 = za at *
      generalize (mkR T ow op om).2 = T2 at *
      refine awpD_restR (by rfl) (by simp [go_sem]; exact ⟨rfl, rfl, rfl⟩) ?_; try dsimp only [thn, inBlk]
      (repeat' first
        | refine AWP.seq ?_
        | refine AWP.block ?_
        | (refine AWP.skip ?_; try dsimp only [thn, inBlk])
        | (refine AWP.exit ?_; try simp only [thn, inBlk, if_true, reduceIte, Nat.reduceEqDiff])
        | (refine AWP.ret ?_; try dsimp only [thn, inBlk])
        | (refine AWP.condT ?_ ?_; (focus (simp [go_sem]; done)))
        | (refine AWP.condF ?_ ?_; (focus (simp [go_sem]; done)))
        | (apply AWP.rE; (focus (simp [go_sem]; exact ⟨rfl, rfl⟩)); try dsimp only [thn, inBlk])
        | fail)
      refine ⟨za, T2, _, by simp [go_sem], hT2, e2, ?_⟩
      (refine Own.sbl ?_ (k11); repeat' first | exact Sbl.nil _ | with_reducible exact Sbl.rfl _ | (apply Sbl.cons) | (apply Sbl.skip) | with_reducible exact Fnd.head _ _ | (apply Fnd.tail))
    · have g0 : ((K : Int) == 0) = false := by simp; omega
      have g1 : ((K : Int) == 1) = false := by simp; omega
      have g2 : ((K : Int) == 2) = false := by simp; omega
      have g3 : ((K : Int) == 3) = false := by simp; omega
      have g4 : ((K : Int) == 4) = false := by simp; omega
      have n0 : ¬ K = 0 := by omega
      have n1 : ¬ (K : Int) = 1 := by omega
      have n2 : ¬ (K : Int) = 2 := by omega
      have n3 : ¬ (K : Int) = 3 := by omega
      have n4 : ¬ (K : Int) = 4 := by omega
      (repeat' first
        | refine AWP.seq ?_
        | refine AWP.block ?_
        | (refine AWP.skip ?_; try dsimp only [thn, inBlk])
        | (refine AWP.exit ?_; try simp only [thn, inBlk, if_true, reduceIte, Nat.reduceEqDiff])
        | (refine AWP.ret ?_; try dsimp only [thn, inBlk])
        | (refine AWP.condT ?_ ?_; (focus (simp [go_sem, g0, g1, g2, g3, g4, n0, n1, n2, n3, n4]; done)))
        | (refine AWP.condF ?_ ?_; (focus (simp [go_sem, g0, g1, g2, g3, g4, n0, n1, n2, n3, n4]; done)))
        | (apply AWP.rE; (focus (simp [go_sem, g0, g1, g2, g3, g4, n0, n1, n2, n3, n4]; exact ⟨rfl, rfl⟩)); try dsimp only [thn, inBlk])
        | fail)
      refine AWP.draw hmix [.n 0 [3], .n 1 [6], .n 2 [33], .n 3 [6], .n 4 [35], .n 5 [9], .n 6 [6], .n 7 [38], .n 9 [4], .n 10 [6], .n 11 [42], .n 12 [6], .n 13 [44], .n 14 [6], .n 15 [46], .n 16 [6], .n 17 [48], .w 8 [32, 34, 36, 37, 39] [11, 13, 15, 17], .w 18 [41, 43, 45, 47, 49] [], .n 19 [40], .n 20 [50]] (by kernel_rfl) ?_
      refine awpD_callR 17 (by rfl) (by rfl) (by simp [go_sem, c9]; exact ⟨rfl, rfl, rfl⟩) (by rfl) (by rfl) (by simp [go_sem]) (by simp [go_sem, c9]; exact ⟨rfl, rfl⟩) (by kernel_rfl) ?_
      refine (write_calls (who := ow) (p := op) (d := od) (z := om) hT.toTK k9' (fun hh kk => kk.ob_bytes) (by omega) (by omega)).mono ?_
      rintro r h10 ⟨rfl, k10⟩
      have c10 := k10.b3.obj
      rw [← hO5] at c10
      refine ⟨by simp [still, go_sem, c9, c10], ?_⟩
      refine awpD_callR 0 (by rfl) (by rfl) (by simp [go_sem, c10]; exact ⟨rfl, rfl, rfl⟩) (by rfl) (by rfl) (by simp [go_sem]) (by simp [go_sem, c10]; exact ⟨rfl, rfl⟩) (by kernel_rfl) ?_
      refine (rwrite_calls (who := ow) (p := op) (d := od) (z := om) hX htp k10.b2 (fun hh kk => hbd.of_old hb kk) (by omega) (by omega)).mono ?_
      rintro r h11 ⟨rfl, k11⟩
      have c11 := k11.b3.obj
      rw [← hO5] at c11
      refine ⟨by simp [still, go_sem, c10, c11], ?_⟩
      obtain ⟨e1, e2⟩ := hr.write hT ow op od om
      rw [e1]
      have hT2 := hT.wr (who := ow) (p := op) (d := od) (z := om) hb2 (by omega)
      generalize hza : (wrR T ow op od om).1 = za at *
      generalize (wrR T ow op od om).2 = T2 at *
      refine awpD_restR (by rfl) (by simp [go_sem]; exact ⟨rfl, rfl, rfl⟩) ?_; try dsimp only [thn, inBlk]
      (repeat' first
        | refine AWP.seq ?_
        | refine AWP.block ?_
        | (refine AWP.skip ?_; try dsimp only [thn, inBlk])
        | (refine AWP.exit ?_; try simp only [thn, inBlk, if_true, reduceIte, Nat.reduceEqDiff])
        | (refine AWP.ret ?_; try dsimp only [thn, inBlk])
        | (refine AWP.condT ?_ ?_; (focus (simp [go_sem]; done)))
        | (refine AWP.condF ?_ ?_; (focus (simp [go_sem]; done)))
        | (apply AWP.rE; (focus (simp [go_sem]; exact ⟨rfl, rfl⟩)); try dsimp only [thn, inBlk])
        | fail)
      refine ⟨za, T2, _, by simp [go_sem], hT2, e2, ?_⟩
      (refine Own.sbl ?_ (k11); repeat' first | exact Sbl.nil _ | with_reducible exact Sbl.rfl _ | (apply Sbl.cons) | (apply Sbl.skip) | with_reducible exact Fnd.head _ _ | (apply Fnd.tail))
  rintro s h7 ⟨z, T2, xs2, rfl, hT2, hr2, k7⟩
  clear hT hr hX hPx htp kB k6 k9 k9'
  have hdn : od.length ≤ 1500 := hb1
  generalize hdd : od.length = dn at *
  (repeat' first
    | refine AWP.seq ?_
    | refine AWP.block ?_
    | (refine AWP.skip ?_; try dsimp only [thn, inBlk])
    | (refine AWP.exit ?_; try simp only [thn, inBlk, if_true, reduceIte, Nat.reduceEqDiff])
    | (refine AWP.ret ?_; try dsimp only [thn, inBlk])
    | (refine AWP.condT ?_ ?_; (focus (simp [go_sem]; done)))
    | (refine AWP.condF ?_ ?_; (focus (simp [go_sem]; done)))
    | (apply AWP.rE; (focus (simp [go_sem]; exact ⟨rfl, rfl⟩)); try dsimp only [thn, inBlk])
    | fail)
  have k8 : Own h.asOld h7 [os 5 1 (.slice a9 dn n9) dn (od.map B), tr i T2, rts ib xs2, cell io O5] := by
    have e : (ob 5 (.slice a9 dn n9) od : Chunk) = os 5 1 (.slice a9 dn n9) dn (od.map B) := by show os 5 1 _ od.length _ = _; rw [hdd]
    rw [← e]
    (refine Own.sbl ?_ (k7); repeat' first | exact Sbl.nil _ | with_reducible exact Sbl.rfl _ | (apply Sbl.cons) | (apply Sbl.skip) | with_reducible exact Fnd.head _ _ | (apply Fnd.tail))
  refine AWP.loopR [3, 4, 6, 7, 8, 19, 20, 21, 9, 121, 122] (fun m s h' => ∃ (q : Nat) (bs : List UInt8), q ≤ dn ∧ m = dn - q ∧ bs.length = dn ∧ s = ⟨150, [(3, ptr i), (4, ptr ib), (6, ptr io), (7, .int .i64 z), (8, .int .i64 z), (19, .slice va s1.length vc), (20, .int .i64 s1.length), (21, .int .i64 j), (9, .slice a9 dn n9), (121, .int .i64 dn), (122, .int .i64 q)]⟩ ∧ Own h.asOld h' [os 5 1 (.slice a9 dn n9) dn (bs.map B), tr i T2, rts ib xs2, cell io O5]) ?_ ?_
  · exact ⟨_, 0, od, by omega, rfl, hdd, by simp [go_sem], k8⟩
  rintro m s hA ⟨q, bs, hq, rfl, hbl, rfl, kA⟩
  by_cases hqm : q < dn
  · have hqm' : (q : Int) < dn := by omega
    obtain ⟨b3, o3, c3', ti3, p3, q3, m3, k17⟩ := kA.os_write (P := Tryd.prog) (t := 22) Tryd.underlying22 tsz5 hqm (.int .u8 238) (kd := .i64)
    have m3' : o3 + 1 ≤ c3'.length := m3
    have w2 : IntKind.i64.wrap ((q : Int) + 1) = ((q + 1 : Nat) : Int) := by rw [wI64 (by omega) (by omega)]; omega
    (repeat' first
      | refine AWP.seq ?_
      | refine AWP.block ?_
      | (refine AWP.skip ?_; try dsimp only [thn, inBlk])
      | (refine AWP.exit ?_; try simp only [thn, inBlk, if_true, reduceIte, Nat.reduceEqDiff])
      | (refine AWP.ret ?_; try dsimp only [thn, inBlk])
      | (refine AWP.condT ?_ ?_; (focus (simp [go_sem, hqm', p3, q3, m3', w2]; done)))
      | (refine AWP.condF ?_ ?_; (focus (simp [go_sem, hqm', p3, q3, m3', w2]; done)))
      | (apply AWP.rE; (focus (simp [go_sem, hqm', p3, q3, m3', w2]; exact ⟨rfl, rfl⟩)); try dsimp only [thn, inBlk])
      | fail)
    refine ⟨dn - (q + 1), by omega, q + 1, bs.set q 238, by omega, rfl, by simp [hbl], by simp [go_sem], ?_⟩
    rw [List.map_set]; exact k17
  have hqm' : ¬ (q : Int) < dn := by omega
  have kB1 : Own h.asOld hA (rts ib xs2 :: tr i T2 :: cell io O5 :: []) := by
    (refine Own.sbl ?_ (kA); repeat' first | exact Sbl.nil _ | with_reducible exact Sbl.rfl _ | (apply Sbl.cons) | (apply Sbl.skip) | with_reducible exact Fnd.head _ _ | (apply Fnd.tail))
  obtain ⟨v2, kB2⟩ := rts_iff.1 kB1
  obtain ⟨zs, hz, kB3⟩ := nds_zs.1 kB2.b1
  have kB4 : Own h.asOld hA (star (zs.map sb) :: nzs v2 zs :: cell ib (rrow v2) :: tr i T2 :: cell io O5 :: []) := Own.star_iff.2 (kB3.perm List.perm_middle.symm)
  have kB5 : Own h.asOld hA (tr i T2 :: cell ib (rrow v2) :: nzs v2 zs :: star (zs.map sb) :: cell io O5 :: []) := by
    (refine Own.sbl ?_ (kB4); repeat' first | exact Sbl.nil _ | with_reducible exact Sbl.rfl _ | (apply Sbl.cons) | (apply Sbl.skip) | with_reducible exact Fnd.head _ _ | (apply Fnd.tail))
  have cA := kB5.b4.obj
  rw [← hO5] at cA
  (repeat' first
    | refine AWP.seq ?_
    | refine AWP.block ?_
    | (refine AWP.skip ?_; try dsimp only [thn, inBlk])
    | (refine AWP.exit ?_; try simp only [thn, inBlk, if_true, reduceIte, Nat.reduceEqDiff])
    | (refine AWP.ret ?_; try dsimp only [thn, inBlk])
    | (refine AWP.condT ?_ ?_; (focus (simp [go_sem, hqm']; done)))
    | (refine AWP.condF ?_ ?_; (focus (simp [go_sem, hqm']; done)))
    | (apply AWP.rE; (focus (simp [go_sem, hqm']; exact ⟨rfl, rfl⟩)); try dsimp only [thn, inBlk])
    | fail)
  subst hdd
  refine AWP.draw hmix [.n 0 [7], .n 1 [8], .n 2 [129, 130], .n 3 [131], .n 4 [3, 132], .n 5 [4, 132], .n 6 [6, 132], .w 7 [133, 134, 135, 132] [], .n 8 [136, 132], .n 9 [132, 137], .n 10 [138], .n 11 [3, 139], .n 13 [4, 139], .n 14 [142, 139], .n 15 [143, 139], .n 16 [144, 139], .w 12 [140, 139] [16], .w 17 [141, 145, 139] [], .n 18 [146, 139], .n 19 [139, 147]] (by kernel_rfl) ?_
  refine awpD_callR 7 (by rfl) (by rfl) (by simp [go_sem, cA]; exact ⟨rfl, rfl, rfl⟩) (by rfl) (by rfl) (by simp [go_sem]) (by simp [go_sem, cA]; exact ⟨rfl, rfl⟩) (by kernel_rfl) ?_
  refine (look_calls (o := (⟨ok, om, ow, op, oo⟩, od)) (pa := pa) (pc := pc) hT2 hr2 hz hb2 kB5).mono ?_
  rintro r h20 ⟨rfl, k20⟩
  have kC1 : Own h.asOld h20 (star (zs.map sb) :: nzs v2 zs :: cell ib (rrow v2) :: tr i T2 :: cell io O5 :: []) := by
    (refine Own.sbl ?_ (k20); repeat' first | exact Sbl.nil _ | with_reducible exact Sbl.rfl _ | (apply Sbl.cons) | (apply Sbl.skip) | with_reducible exact Fnd.head _ _ | (apply Fnd.tail))
  have kC2 : Own h.asOld h20 (nds v2 xs2 :: cell ib (rrow v2) :: tr i T2 :: cell io O5 :: []) := nds_zs.2 ⟨zs, hz, (Own.star_iff.1 kC1).perm List.perm_middle⟩
  have cib := kC2.b1.obj
  have cio := kC2.b3.obj
  rw [← hO5] at cio
  have cib0 := kB5.b1.obj
  refine ⟨by simp [still, go_sem, cA, cio], ?_⟩
  have kC3 : Own h.asOld h20 (tr i T2 :: cell ib (rrow v2) :: nds v2 xs2 :: cell io O5 :: []) := by
    (refine Own.sbl ?_ (kC2); repeat' first | exact Sbl.nil _ | with_reducible exact Sbl.rfl _ | (apply Sbl.cons) | (apply Sbl.skip) | with_reducible exact Fnd.head _ _ | (apply Fnd.tail))
  refine awpD_callR 8 (by rfl) (by rfl) (by simp [go_sem, cib]; exact ⟨rfl, rfl, rfl⟩) (by rfl) (by rfl) (by simp [go_sem]) (by simp [go_sem, cib]; exact ⟨rfl, rfl⟩) (by kernel_rfl) ?_
  refine (nodes_calls hT2.toTK kC3).mono ?_
  rintro r h21 ⟨a21, n21, rfl, k21⟩
  have cib1 := k21.b2.obj
  refine ⟨by simp [still, go_sem, cib, cib1], ?_⟩
  have B1 := nds_br k21
  have B2 := nds_br k21.b3
  rw [hr2.nodes hT2] at B2
  have hnl : (nodesL T2).length ≤ 1000000000 := by rw [← hr2.nodes hT2, hr2.len hT2]; have := hT2.mx; omega
  refine awpD_callR 0 (by rfl) (by rfl) (by simp [go_sem, cib1]; exact ⟨rfl, rfl, rfl⟩) (by rfl) (by rfl) (by simp [go_sem]) (by simp [go_sem, cib1]; exact ⟨rfl, rfl⟩) (by kernel_rfl) ?_
  refine (same_calls B1 B2 (by rw [List.length_map]; exact hnl)).mono ?_
  rintro r h22 ⟨rfl, rfl⟩
  refine ⟨by simp [still, go_sem, cib1], ?_⟩
  refine awpD_restR (by rfl) (by simp [go_sem]; exact ⟨rfl, rfl, rfl⟩) ?_; try dsimp only [thn, inBlk]
  (repeat' first
    | refine AWP.seq ?_
    | refine AWP.block ?_
    | (refine AWP.skip ?_; try dsimp only [thn, inBlk])
    | (refine AWP.exit ?_; try simp only [thn, inBlk, if_true, reduceIte, Nat.reduceEqDiff])
    | (refine AWP.ret ?_; try dsimp only [thn, inBlk])
    | (refine AWP.condT ?_ ?_; (focus (simp [go_sem, w1]; done)))
    | (refine AWP.condF ?_ ?_; (focus (simp [go_sem, w1]; done)))
    | (apply AWP.rE; (focus (simp [go_sem, w1]; exact ⟨rfl, rfl⟩)); try dsimp only [thn, inBlk])
    | fail)
  refine ⟨s1.length - (j + 1), by omega, j + 1, T2, xs2, by omega, rfl, by simp [go_sem], hT2, hr2, ?_⟩
  have kF : Own h.asOld h22 (cell ib (rrow v2) :: nds v2 xs2 :: tr i T2 :: []) := by
    (refine Own.sbl ?_ (k21); repeat' first | exact Sbl.nil _ | with_reducible exact Sbl.rfl _ | (apply Sbl.cons) | (apply Sbl.skip) | with_reducible exact Fnd.head _ _ | (apply Fnd.tail))
  have kG : Own h.asOld h22 (rts ib xs2 :: tr i T2 :: []) := rts_iff.2 ⟨v2, kF⟩
  exact kG.b1
end L19
