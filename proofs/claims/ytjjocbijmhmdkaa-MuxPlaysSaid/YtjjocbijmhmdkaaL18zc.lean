import Derived.Test.YtjjocbijmhmdkaaL18zb
open Go Ab Go.Proofs
namespace L18
set_option autoImplicit false
set_option linter.unusedSimpArgs false
set_option linter.unusedVariables false
attribute [local irreducible] mcells dcells

structure DB (D : List Dc) (j : Nat) : Prop where
  w : ∀ c, (dg D c).w.length ≤ 12000 * j
  c : ∀ c, (dg D c).c.length ≤ 2000 * j
theorem DB.set {D : List Dc} {j : Nat} (k : DB D j) {c : Nat} {x : Dc} (h1 : x.w.length ≤ 12000 * (j + 1)) (h2 : x.c.length ≤ 2000 * (j + 1)) : DB (D.set c x) (j + 1) := by
  have key : ∀ e, (dg (D.set c x) e).w.length ≤ 12000 * (j + 1) ∧ (dg (D.set c x) e).c.length ≤ 2000 * (j + 1) := fun e => by
    have a1 := k.w e
    have a2 := k.c e
    by_cases he : e = c
    · subst he
      by_cases hl : e < D.length
      · rw [dg_set hl]; exact ⟨h1, h2⟩
      · rw [List.set_eq_of_length_le (by omega)]; omega
    · rw [dg_ne he]; omega
  exact ⟨fun e => (key e).1, fun e => (key e).2⟩
theorem DB.succ {D : List Dc} {j : Nat} (k : DB D j) : DB D (j + 1) := ⟨fun c => by have := k.w c; omega, fun c => by have := k.c c; omega⟩
theorem DB.write {D : List Dc} {j : Nat} (k : DB D j) (c : Int) {d : List UInt8} (hd : d.length ≤ 8191) : DB (dwrite D c d).2 (j + 1) := by
  unfold dwrite
  split
  · exact k.succ
  · split
    · exact k.succ
    · have a1 := k.w c.toNat
      have a2 := k.c c.toNat
      exact k.set (by simp; omega) (by simp only; omega)
theorem DB.close {D : List Dc} {j : Nat} (k : DB D j) (c : Int) : DB (dclose D c).2 (j + 1) := by
  unfold dclose
  have a1 := k.w c.toNat
  have a2 := k.c c.toNat
  split
  · exact k.succ
  · exact k.set (by simp only; omega) (by simp only; omega)
theorem DB.read {D : List Dc} {j : Nat} (k : DB D j) (c most : Int) : DB (dread D c most).2 (j + 1) := by
  unfold dread
  have a1 := k.w c.toNat
  have a2 := k.c c.toNat
  split
  · exact k.succ
  · exact k.set (by simp only; omega) (by simp only; omega)
theorem DB.take {D : List Dc} {j : Nat} (k : DB D j) (f : Fr) (hf : f.2.length ≤ 2000) : DB (dtake D f).2 (j + 1) := by
  unfold dtake
  split
  · rcases f.2 with _ | ⟨b0, _ | ⟨b1, _ | ⟨b2, _ | ⟨b3, _ | ⟨b4, d⟩⟩⟩⟩⟩
    · exact k.succ
    · exact k.succ
    · exact k.succ
    · exact k.succ
    · simp only [dctrl]
      have a1 := k.w b1.toNat
      have a2 := k.c b1.toNat
      repeat' split
      all_goals first
        | exact k.succ
        | exact k.set (by simp only; omega) (by simp only; omega)
    · exact k.succ
  · have a1 := k.w f.1.toNat
    have a2 := k.c f.1.toNat
    simp only
    repeat' split
    all_goals first
      | exact k.succ
      | exact k.set (by simp only; omega) (by simp; omega)
theorem DB.out {D : List Dc} {j : Nat} (k : DB D j) : DB (doutN D 4).2 (j + 1) :=
  ⟨fun c => by rw [doutN_w]; have := k.w c; omega, fun c => by rw [doutN_c]; have := k.c c; omega⟩

theorem op_at2 {h0 : AHeap} {v : Value} {l : List Op} (hb : h0.base = h0.next) (hv : BR preO 6 h0 v l) {j : Nat} (hj : j < l.length) :
    ∃ a cap, (∀ hh L, Own h0.asOld hh L → Bytes hh (.slice a l[j].2.length cap) l[j].2) ∧ ∀ hh L, Own h0.asOld hh L → ∃ i off c e' sz' ti ro, indexAddrP Try.prog 22 v (.int .i64 j) = some (.pointer (some ⟨i, off, none⟩)) ∧ hh.obj i = some (.row c e' sz' ti ro) ∧ off + 6 ≤ c.length ∧ (c.drop off).take 6 = orow l[j] a cap := by
  obtain ⟨ac, ha, sl, hx⟩ := hv
  have hac : j < ac.length := by omega
  refine ⟨ac[j].1, ac[j].2, fun hh L kk => (hx j l[j] ac[j] (List.getElem?_eq_getElem hj) (List.getElem?_eq_getElem hac)).of_old hb kk, fun hh L kk => ?_⟩
  obtain ⟨i, off, c, e', sz', ti, ro, q1, q2, q3, q4, q5⟩ := (sl.of_old hb kk).record (P := Try.prog) Try.underlying22 tsz32 (rcells_all (pre := preO) (fun _ => rfl) ac) (rcells_length ha) hj (kd := .i64)
  refine ⟨i, off, c, e', sz', ti, ro, q1, q2, q3, ?_⟩
  rw [q4]; simp [rcells, rec1, preO]

set_option maxHeartbeats 16000000 in
theorem plays_calls {h : AHeap} {v : Value} {l : List Op} (hb : h.base = h.next) (hv : BR preO 6 h v l) (hl : l.length ≤ 9223372036854775807) (hwf : ∀ o ∈ l, o.1.Wf) :
    ACalls Try.prog 5 #[v] h fun r _ => r = .bool true := by
  refine Own.of_wf fun k0 => ?_
  obtain ⟨va, vc, rfl⟩ := hv.val
  refine ACalls.of_awp (args := [.slice va l.length vc]) (n := 141) Try.func5 rfl rfl (by show 1 ≤ 141; omega) ?_
  (repeat' first
    | refine AWP.seq ?_
    | refine AWP.block ?_
    | (refine AWP.skip ?_; try dsimp only [thn, inBlk])
    | (refine AWP.exit ?_; try simp only [thn, inBlk, if_true, reduceIte, Nat.reduceEqDiff])
    | (refine AWP.ret ?_; try dsimp only [thn, inBlk])
    | (refine AWP.condT ?_ ?_; (focus (simp [go_sem]; done)))
    | (refine AWP.condF ?_ ?_; (focus (simp [go_sem]; done)))
    | (apply AWP.rE; (focus (simp [go_sem]; exact ⟨rfl, rfl⟩)); try dsimp only [thn, inBlk])
    | fail)
  refine AWP.callE (by simp [go_sem]; exact ⟨rfl, rfl, rfl, rfl, rfl⟩) (by kernel_rfl) ?_
  refine (speaks_calls k0).mono ?_
  rintro r h1 ⟨rfl, k1⟩
  refine awpL_restE (by simp [go_sem]; exact ⟨rfl, rfl⟩) ?_; try dsimp only [thn, inBlk]
  (repeat' first
    | refine AWP.seq ?_
    | refine AWP.block ?_
    | (refine AWP.skip ?_; try dsimp only [thn, inBlk])
    | (refine AWP.exit ?_; try simp only [thn, inBlk, if_true, reduceIte, Nat.reduceEqDiff])
    | (refine AWP.ret ?_; try dsimp only [thn, inBlk])
    | (refine AWP.condT ?_ ?_; (focus (simp [go_sem]; done)))
    | (refine AWP.condF ?_ ?_; (focus (simp [go_sem]; done)))
    | (apply AWP.rE; (focus (simp [go_sem]; exact ⟨rfl, rfl⟩)); try dsimp only [thn, inBlk])
    | fail)
  refine AWP.callE (by simp [go_sem]; exact ⟨rfl, rfl, rfl, rfl, rfl⟩) (by kernel_rfl) ?_
  refine (great_calls hb hv k1 hl).mono ?_
  rintro r h2 ⟨rfl, k2⟩
  refine awpL_restE (by simp [go_sem]; exact ⟨rfl, rfl⟩) ?_; try dsimp only [thn, inBlk]
  cases hbig : big l
  rotate_left
  · (repeat' first
      | refine AWP.seq ?_
      | refine AWP.block ?_
      | (refine AWP.skip ?_; try dsimp only [thn, inBlk])
      | (refine AWP.exit ?_; try simp only [thn, inBlk, if_true, reduceIte, Nat.reduceEqDiff])
      | (refine AWP.ret ?_; try dsimp only [thn, inBlk])
      | (refine AWP.condT ?_ ?_; (focus (simp [go_sem]; done)))
      | (refine AWP.condF ?_ ?_; (focus (simp [go_sem]; done)))
      | (apply AWP.rE; (focus (simp [go_sem]; exact ⟨rfl, rfl⟩)); try dsimp only [thn, inBlk])
      | fail)
    simp [bodyQ, thn, inBlk, resA, resV, go_sem]
  have h80 : l.length ≤ 80 := by
    simp [big] at hbig; omega
  (repeat' first
    | refine AWP.seq ?_
    | refine AWP.block ?_
    | (refine AWP.skip ?_; try dsimp only [thn, inBlk])
    | (refine AWP.exit ?_; try simp only [thn, inBlk, if_true, reduceIte, Nat.reduceEqDiff])
    | (refine AWP.ret ?_; try dsimp only [thn, inBlk])
    | (refine AWP.condT ?_ ?_; (focus (simp [go_sem]; done)))
    | (refine AWP.condF ?_ ?_; (focus (simp [go_sem]; done)))
    | (apply AWP.rE; (focus (simp [go_sem]; exact ⟨rfl, rfl⟩)); try dsimp only [thn, inBlk])
    | fail)
  refine AWP.callE (by simp [go_sem]; exact ⟨rfl, rfl, rfl, rfl, rfl⟩) (by kernel_rfl) ?_
  refine (new_calls k2).mono ?_
  rintro r h3 ⟨a, rfl, k3⟩
  refine awpL_toCall (by simp [go_sem]; exact ⟨rfl, rfl, rfl, rfl, rfl⟩) (by kernel_rfl) ?_
  refine (dnew_calls k3).mono ?_
  rintro r h3' ⟨b, rfl, k3⟩
  refine awpL_restE (by simp [go_sem]; exact ⟨rfl, rfl⟩) ?_; try dsimp only [thn, inBlk]
  (repeat' first
    | refine AWP.seq ?_
    | refine AWP.block ?_
    | (refine AWP.skip ?_; try dsimp only [thn, inBlk])
    | (refine AWP.exit ?_; try simp only [thn, inBlk, if_true, reduceIte, Nat.reduceEqDiff])
    | (refine AWP.ret ?_; try dsimp only [thn, inBlk])
    | (refine AWP.condT ?_ ?_; (focus (simp [go_sem]; done)))
    | (refine AWP.condF ?_ ?_; (focus (simp [go_sem]; done)))
    | (apply AWP.rE; (focus (simp [go_sem]; exact ⟨rfl, rfl⟩)); try dsimp only [thn, inBlk])
    | fail)
  refine AWP.loopR [3, 4, 19, 20, 21] (fun m s h' => ∃ (j : Nat) (D : List Dc), j ≤ l.length ∧ m = l.length - j ∧ s = ⟨141, [(3, ptr a), (4, ptr b), (19, .slice va l.length vc), (20, .int .i64 l.length), (21, .int .i64 (j : Nat))]⟩ ∧
    DI D ∧ DB D j ∧ Own h.asOld h' [mux a (prO D) (prI D), dmux b D]) ?_ ?_
  · exact ⟨_, 0, dzj 4, by omega, rfl, by simp [go_sem], DI.new, ⟨fun c => by match c with | 0 => exact Nat.zero_le _ | 1 => exact Nat.zero_le _ | 2 => exact Nat.zero_le _ | 3 => exact Nat.zero_le _ | c + 4 => exact Nat.zero_le _, fun c => by match c with | 0 => exact Nat.zero_le _ | 1 => exact Nat.zero_le _ | 2 => exact Nat.zero_le _ | 3 => exact Nat.zero_le _ | c + 4 => exact Nat.zero_le _⟩, by rw [dnew_pr.1, dnew_pr.2]; exact k3.b1⟩
  rintro m s h4 ⟨j, D, hj, rfl, rfl, di, db, kt⟩
  by_cases hj2 : j < l.length
  rotate_left
  · have hj3 : ¬ (j : Int) < l.length := by omega
    (repeat' first
      | refine AWP.seq ?_
      | refine AWP.block ?_
      | (refine AWP.skip ?_; try dsimp only [thn, inBlk])
      | (refine AWP.exit ?_; try simp only [thn, inBlk, if_true, reduceIte, Nat.reduceEqDiff])
      | (refine AWP.ret ?_; try dsimp only [thn, inBlk])
      | (refine AWP.condT ?_ ?_; (focus (simp [go_sem, hj3]; done)))
      | (refine AWP.condF ?_ ?_; (focus (simp [go_sem, hj3]; done)))
      | (apply AWP.rE; (focus (simp [go_sem, hj3]; exact ⟨rfl, rfl⟩)); try dsimp only [thn, inBlk])
      | fail)
    simp [bodyQ, thn, inBlk, resA, resV, go_sem]
  have hj3 : (j : Int) < l.length := by omega
  obtain ⟨j1, hj1⟩ : ∃ j1, j1 = j + 1 := ⟨_, rfl⟩
  have wj : IntKind.i64.wrap ((j : Int) + 1) = (j1 : Int) := by rw [wI64 (by omega) (by omega)]; omega
  obtain ⟨oa, ocap, hB, hR⟩ := op_at2 hb hv hj2
  obtain ⟨q, hq⟩ : ∃ q, q = l[j] := ⟨_, rfl⟩
  rw [← hq] at hB hR
  obtain ⟨oi, oo, oc, oe, osz, oti, oro, p1, p2, p3, p4⟩ := hR _ _ kt
  have kp := kt.push (.row (orow q oa ocap) 32 6 true false)
  have cp := kp.obj
  have hqb : q.2.length ≤ 2000 := by
    simp [big] at hbig
    exact hbig.2 q.1 q.2 (by rw [hq]; exact List.getElem_mem hj2)
  have hsz := szO_le q
  have wk := msk_w q.1.kind (m := 7) (by omega)
  obtain ⟨kd, hkd⟩ : ∃ kd, kd = msk q.1.kind 7 := ⟨_, rfl⟩
  have hkd7 : kd ≤ 7 := by rw [hkd]; exact msk_le _ _
  rw [← hkd] at wk
  have dbw := db.w
  have dbc := db.c
  have hW : ∀ c, (dg D c).w.length ≤ 1000000000 := fun c => by have := dbw c; omega
  have hC : ∀ c, (dg D c).c.length ≤ 1000000000 := fun c => by have := dbc c; omega
  have mi := di.mi
  (repeat' first
    | refine AWP.seq ?_
    | refine AWP.block ?_
    | (refine AWP.skip ?_; try dsimp only [thn, inBlk])
    | (refine AWP.exit ?_; try simp only [thn, inBlk, if_true, reduceIte, Nat.reduceEqDiff])
    | (refine AWP.ret ?_; try dsimp only [thn, inBlk])
    | (refine AWP.condT ?_ ?_; (focus (simp [go_sem, hj3]; done)))
    | (refine AWP.condF ?_ ?_; (focus (simp [go_sem, hj3]; done)))
    | (apply AWP.rE; (focus (simp [go_sem, hj3]; exact ⟨rfl, rfl⟩)); try dsimp only [thn, inBlk])
    | fail)
  (apply AWP.rE; (focus (simp [go_sem, p1, p2, p3, p4]; exact ⟨rfl, rfl⟩)); try dsimp only [thn, inBlk])
  refine AWP.cut [3, 4, 6, 19, 20, 21] (fun s h' => ∃ (D : List Dc), s = ⟨141, [(3, ptr a), (4, ptr b), (6, ptr h4.next), (19, .slice va l.length vc), (20, .int .i64 l.length), (21, .int .i64 (j : Nat))]⟩ ∧
    DI D ∧ DB D j1 ∧ Own h.asOld h' [mux a (prO D) (prI D), dmux b D, cell h4.next (.row (orow q oa ocap) 32 6 true false)]) ?_ ?_
  · obtain ⟨hp, hhp⟩ : ∃ hp, hp = h4.push (.row (orow q oa ocap) 32 6 true false) := ⟨_, rfl⟩
    rw [← hhp] at kp cp ⊢
    have cp1 := kp.obj
    (repeat' first
      | refine AWP.seq ?_
      | refine AWP.block ?_
      | (refine AWP.skip ?_; try dsimp only [thn, inBlk])
      | (refine AWP.exit ?_; try simp only [thn, inBlk, if_true, reduceIte, Nat.reduceEqDiff])
      | (refine AWP.ret ?_; try dsimp only [thn, inBlk])
      | (refine AWP.condT ?_ ?_; (focus (simp [go_sem, cp, wk]; done)))
      | (refine AWP.condF ?_ ?_; (focus (simp [go_sem, cp, wk]; done)))
      | (apply AWP.rE; (focus (simp [go_sem, cp, wk]; exact ⟨rfl, rfl⟩)); try dsimp only [thn, inBlk])
      | fail)
    refine AWP.cutT [3, 4, 5, 6, 19, 20, 21, 28, 57] (fun s h'' => s = ⟨141, [(3, ptr a), (4, ptr b), (5, .int .i64 j), (6, ptr h4.next), (19, .slice va l.length vc), (20, .int .i64 l.length), (21, .int .i64 (j : Nat)), (28, .int .i64 (kd : Nat)), (57, .bool (decide (kd ≤ 1)))]⟩ ∧ h'' = hp) ?_ ?_
    · by_cases hk : kd = 0
      · subst hk
        (repeat' first
          | refine AWP.seq ?_
          | refine AWP.block ?_
          | (refine AWP.skip ?_; try dsimp only [thn, inBlk])
          | (refine AWP.exit ?_; try simp only [thn, inBlk, if_true, reduceIte, Nat.reduceEqDiff])
          | (refine AWP.ret ?_; try dsimp only [thn, inBlk])
          | (refine AWP.condT ?_ ?_; (focus (simp [go_sem]; done)))
          | (refine AWP.condF ?_ ?_; (focus (simp [go_sem]; done)))
          | (apply AWP.rE; (focus (simp [go_sem]; exact ⟨rfl, rfl⟩)); try dsimp only [thn, inBlk])
          | fail)
        exact ⟨by simp [go_sem], rfl⟩
      · have hk0 : ((kd : Int) == 0) = false := by simp; omega
        have hk1 : ((kd : Int) == 1) = decide (kd ≤ 1) := by rw [Bool.eq_iff_iff]; simp; omega
        (repeat' first
          | refine AWP.seq ?_
          | refine AWP.block ?_
          | (refine AWP.skip ?_; try dsimp only [thn, inBlk])
          | (refine AWP.exit ?_; try simp only [thn, inBlk, if_true, reduceIte, Nat.reduceEqDiff])
          | (refine AWP.ret ?_; try dsimp only [thn, inBlk])
          | (refine AWP.condT ?_ ?_; (focus (simp [go_sem, hk0, hk1]; done)))
          | (refine AWP.condF ?_ ?_; (focus (simp [go_sem, hk0, hk1]; done)))
          | (apply AWP.rE; (focus (simp [go_sem, hk0, hk1]; exact ⟨rfl, rfl⟩)); try dsimp only [thn, inBlk])
          | fail)
        exact ⟨by simp [go_sem], rfl⟩
    rintro s h5 ⟨rfl, rfl⟩
    by_cases hkw : kd ≤ 1
    · obtain ⟨pw1, pw2, pw3⟩ := dwrite_pr di q.1.chan (txt (szO q) j)
      have dbw2 := db.write q.1.chan (d := txt (szO q) j) (by rw [txt_len]; exact hsz)
      (repeat' first
        | refine AWP.seq ?_
        | refine AWP.block ?_
        | (refine AWP.skip ?_; try dsimp only [thn, inBlk])
        | (refine AWP.exit ?_; try simp only [thn, inBlk, if_true, reduceIte, Nat.reduceEqDiff])
        | (refine AWP.ret ?_; try dsimp only [thn, inBlk])
        | (refine AWP.condT ?_ ?_; (focus (simp [go_sem, hkw, cp]; done)))
        | (refine AWP.condF ?_ ?_; (focus (simp [go_sem, hkw, cp]; done)))
        | (apply AWP.rE; (focus (simp [go_sem, hkw, cp]; exact ⟨rfl, rfl⟩)); try dsimp only [thn, inBlk])
        | fail)
      refine AWP.callE (by simp [go_sem, cp]; exact ⟨rfl, rfl, rfl, rfl, rfl⟩) (by kernel_rfl) ?_
      refine (size_calls kp q).mono ?_
      rintro r h6 ⟨rfl, k6⟩
      refine awpL_toCall (by simp [go_sem]; exact ⟨rfl, rfl, rfl, rfl, rfl⟩) (by kernel_rfl) ?_
      refine (text_calls k6 (n := szO q) (fr := j) (by omega) (by omega)).mono ?_
      rintro r h7 ⟨ta, tc, rfl, k7⟩
      refine awpL_restE (by simp [go_sem]; exact ⟨rfl, rfl⟩) ?_; try dsimp only [thn, inBlk]
      have c7 := k7.b1.obj
      (repeat refine AWP.seq ?_)
      refine AWP.draw hmix [.n 0 [3], .n 1 [6], .n 2 [65], .n 3 [7], .n 5 [4], .n 6 [6], .n 7 [70], .n 8 [6], .n 10 [5], .w 4 [64, 66, 67] [7, 8], .w 9 [72] [7], .w 11 [73, 74] [7], .w 12 [69, 71, 75] [], .n 13 [68, 76]] (by kernel_rfl) ?_
      refine awpD_callR 9 (by rfl) (by rfl) (by simp [go_sem, c7]; exact ⟨rfl, rfl, rfl⟩) (by rfl) (by rfl) (by simp [go_sem]) (by simp [go_sem, c7]; exact ⟨rfl, rfl⟩) (by kernel_rfl) ?_
      refine (write_calls (d := txt (szO q) j) k7.b2 mi q.1.chan (fun hh kk => kk.ob_bytes) (by rw [txt_len]; omega)).mono ?_
      rw [pw1, ← pw2]
      rintro r h8 ⟨rfl, k8⟩
      have c8 := k8.b2.obj
      refine ⟨by simp [still, go_sem, c8], ?_⟩
      refine awpD_callR 0 (by rfl) (by rfl) (by simp [go_sem, c8]; exact ⟨rfl, rfl, rfl⟩) (by rfl) (by rfl) (by simp [go_sem]) (by simp [go_sem, c8]; exact ⟨rfl, rfl⟩) (by kernel_rfl) ?_
      refine (size_calls k8 q).mono ?_
      rintro r h9 ⟨rfl, k9⟩
      have c9 := k9.b2.obj
      refine ⟨by simp [still, go_sem, c9], ?_⟩
      refine awpD_callR 0 (by rfl) (by rfl) (by simp [go_sem, c9]; exact ⟨rfl, rfl, rfl⟩) (by rfl) (by rfl) (by simp [go_sem]) (by simp [go_sem, c9]; exact ⟨rfl, rfl⟩) (by kernel_rfl) ?_
      refine (text_calls k9 (n := szO q) (fr := j) (by omega) (by omega)).mono ?_
      rintro r h10 ⟨ua, uc, rfl, k10⟩
      have c10 := k10.b3.obj
      refine ⟨by simp [still, go_sem, c10], ?_⟩
      refine awpD_callR 0 (by rfl) (by rfl) (by simp [go_sem, c10]; exact ⟨rfl, rfl, rfl⟩) (by rfl) (by rfl) (by simp [go_sem]) (by simp [go_sem, c10]; exact ⟨rfl, rfl⟩) (by kernel_rfl) ?_
      refine (dwrite_calls (d := txt (szO q) j) k10.b4 di q.1.chan (fun hh kk => kk.ob_bytes) (by rw [txt_len]; omega) hW).mono ?_
      rintro r h11 ⟨rfl, k11⟩
      have c11 := k11.b4.obj
      refine ⟨by simp [still, go_sem, c11], ?_⟩
      refine awpD_restR (by rfl) (by simp [go_sem]; exact ⟨rfl, rfl, rfl⟩) ?_; try dsimp only [thn, inBlk]
      (repeat' first
        | refine AWP.seq ?_
        | refine AWP.block ?_
        | (refine AWP.skip ?_; try dsimp only [thn, inBlk])
        | (refine AWP.exit ?_; try simp only [thn, inBlk, if_true, reduceIte, Nat.reduceEqDiff])
        | (refine AWP.ret ?_; try dsimp only [thn, inBlk])
        | (refine AWP.condT ?_ ?_; (focus (simp [go_sem]; done)))
        | (refine AWP.condF ?_ ?_; (focus (simp [go_sem]; done)))
        | (apply AWP.rE; (focus (simp [go_sem]; exact ⟨rfl, rfl⟩)); try dsimp only [thn, inBlk])
        | fail)
      refine AWP.loopR [3, 4, 6, 7, 19, 20, 21, 79, 80] (fun m s h' => ∃ (e : Nat) (bs : List UInt8), e ≤ szO q ∧ m = szO q - e ∧ bs.length = szO q ∧ s = ⟨141, [(3, ptr a), (4, ptr b), (6, ptr h4.next), (7, .slice ta (szO q) tc), (19, .slice va l.length vc), (20, .int .i64 l.length), (21, .int .i64 (j : Nat)), (79, .int .i64 (szO q : Nat)), (80, .int .i64 (e : Nat))]⟩ ∧
        Own h.asOld h' [ob 5 (.slice ta (szO q) tc) bs, mux a (prO (dwrite D q.1.chan (txt (szO q) j)).2) (prI (dwrite D q.1.chan (txt (szO q) j)).2), dmux b (dwrite D q.1.chan (txt (szO q) j)).2, cell h4.next (.row (orow q oa ocap) 32 6 true false)]) ?_ ?_
      · exact ⟨_, 0, txt (szO q) j, by omega, rfl, txt_len _ _, by simp [go_sem], by (refine Own.sbl ?_ (k11); repeat' first | exact Sbl.nil _ | with_reducible exact Sbl.rfl _ | (apply Sbl.cons) | (apply Sbl.skip) | with_reducible exact Fnd.head _ _ | (apply Fnd.tail))⟩
      rintro m s h12 ⟨e, bs, he, rfl, hbl, rfl, k12⟩
      by_cases he2 : e < szO q
      rotate_left
      · have he3 : ¬ (e : Int) < (szO q : Nat) := by omega
        (repeat' first
          | refine AWP.seq ?_
          | refine AWP.block ?_
          | (refine AWP.skip ?_; try dsimp only [thn, inBlk])
          | (refine AWP.exit ?_; try simp only [thn, inBlk, if_true, reduceIte, Nat.reduceEqDiff])
          | (refine AWP.ret ?_; try dsimp only [thn, inBlk])
          | (refine AWP.condT ?_ ?_; (focus (simp [go_sem, he3]; done)))
          | (refine AWP.condF ?_ ?_; (focus (simp [go_sem, he3]; done)))
          | (apply AWP.rE; (focus (simp [go_sem, he3]; exact ⟨rfl, rfl⟩)); try dsimp only [thn, inBlk])
          | fail)
        exact ⟨_, by simp [go_sem], pw3, by rw [hj1]; exact dbw2, k12.tail⟩
      have he3 : (e : Int) < (szO q : Nat) := by omega
      obtain ⟨e1, he1⟩ : ∃ e1, e1 = e + 1 := ⟨_, rfl⟩
      have we1 : IntKind.i64.wrap ((e : Int) + 1) = (e1 : Int) := by rw [wI64 (by omega) (by omega)]; omega
      obtain ⟨wi, wo, wc, wt, w1, w2, w3, w4⟩ := k12.ob_write (P := Try.prog) Try.underlying28 tsz5 (j := e) (by omega) 238 (kd := .i64)
      have w3' : wo + 1 ≤ wc.length := w3
      (repeat' first
        | refine AWP.seq ?_
        | refine AWP.block ?_
        | (refine AWP.skip ?_; try dsimp only [thn, inBlk])
        | (refine AWP.exit ?_; try simp only [thn, inBlk, if_true, reduceIte, Nat.reduceEqDiff])
        | (refine AWP.ret ?_; try dsimp only [thn, inBlk])
        | (refine AWP.condT ?_ ?_; (focus (simp [go_sem, he3, w1, w2, w3, w3', we1]; done)))
        | (refine AWP.condF ?_ ?_; (focus (simp [go_sem, he3, w1, w2, w3, w3', we1]; done)))
        | (apply AWP.rE; (focus (simp [go_sem, he3, w1, w2, w3, w3', we1]; exact ⟨rfl, rfl⟩)); try dsimp only [thn, inBlk])
        | fail)
      exact ⟨szO q - e1, by omega, e1, bs.set e 238, by omega, rfl, by simp [hbl], by simp [go_sem], w4⟩
    by_cases hk2 : kd = 2
    · have hk2' : ((kd : Int) == 2) = true := by simp; omega
      obtain ⟨pw1, pw2, pw3⟩ := dclose_pr di q.1.chan
      have dbw2 := db.close q.1.chan
      (repeat' first
        | refine AWP.seq ?_
        | refine AWP.block ?_
        | (refine AWP.skip ?_; try dsimp only [thn, inBlk])
        | (refine AWP.exit ?_; try simp only [thn, inBlk, if_true, reduceIte, Nat.reduceEqDiff])
        | (refine AWP.ret ?_; try dsimp only [thn, inBlk])
        | (refine AWP.condT ?_ ?_; (focus (simp [go_sem, hkw, hk2']; done)))
        | (refine AWP.condF ?_ ?_; (focus (simp [go_sem, hkw, hk2']; done)))
        | (apply AWP.rE; (focus (simp [go_sem, hkw, hk2']; exact ⟨rfl, rfl⟩)); try dsimp only [thn, inBlk])
        | fail)
      (repeat refine AWP.seq ?_)
      refine AWP.draw hmix [.n 0 [3], .n 1 [6], .n 2 [90], .n 4 [4], .n 5 [6], .n 6 [94], .w 3 [89, 91] [6], .w 7 [93, 95] [], .n 8 [92, 96]] (by kernel_rfl) ?_
      refine awpD_callR 6 (by rfl) (by rfl) (by simp [go_sem, cp]; exact ⟨rfl, rfl, rfl⟩) (by rfl) (by rfl) (by simp [go_sem]) (by simp [go_sem, cp]; exact ⟨rfl, rfl⟩) (by kernel_rfl) ?_
      refine (close_calls kp.b1 q.1.chan).mono ?_
      rw [pw1, ← pw2]
      rintro r h8 ⟨rfl, k8⟩
      have c8 := k8.b1.obj
      refine ⟨by simp [still, go_sem, c8], ?_⟩
      refine awpD_callR 0 (by rfl) (by rfl) (by simp [go_sem, c8]; exact ⟨rfl, rfl, rfl⟩) (by rfl) (by rfl) (by simp [go_sem]) (by simp [go_sem, c8]; exact ⟨rfl, rfl⟩) (by kernel_rfl) ?_
      refine (dclose_calls k8.b2 di q.1.chan).mono ?_
      rintro r h9 ⟨rfl, k9⟩
      have c9 := k9.b2.obj
      refine ⟨by simp [still, go_sem, c9], ?_⟩
      refine awpD_restR (by rfl) (by simp [go_sem]; exact ⟨rfl, rfl, rfl⟩) ?_; try dsimp only [thn, inBlk]
      (repeat' first
        | refine AWP.seq ?_
        | refine AWP.block ?_
        | (refine AWP.skip ?_; try dsimp only [thn, inBlk])
        | (refine AWP.exit ?_; try simp only [thn, inBlk, if_true, reduceIte, Nat.reduceEqDiff])
        | (refine AWP.ret ?_; try dsimp only [thn, inBlk])
        | (refine AWP.condT ?_ ?_; (focus (simp [go_sem]; done)))
        | (refine AWP.condF ?_ ?_; (focus (simp [go_sem]; done)))
        | (apply AWP.rE; (focus (simp [go_sem]; exact ⟨rfl, rfl⟩)); try dsimp only [thn, inBlk])
        | fail)
      exact ⟨_, by simp [go_sem], pw3, by rw [hj1]; exact dbw2, k9.b1⟩
    have hk2' : ((kd : Int) == 2) = false := by simp; omega
    by_cases hk3 : kd = 3
    · have hk3' : ((kd : Int) == 3) = true := by simp; omega
      obtain ⟨pw1, pw2, pw3⟩ := dread_pr di q.1.chan q.1.size
      have dbw2 := db.read q.1.chan q.1.size
      (repeat' first
        | refine AWP.seq ?_
        | refine AWP.block ?_
        | (refine AWP.skip ?_; try dsimp only [thn, inBlk])
        | (refine AWP.exit ?_; try simp only [thn, inBlk, if_true, reduceIte, Nat.reduceEqDiff])
        | (refine AWP.ret ?_; try dsimp only [thn, inBlk])
        | (refine AWP.condT ?_ ?_; (focus (simp [go_sem, hkw, hk2', hk3']; done)))
        | (refine AWP.condF ?_ ?_; (focus (simp [go_sem, hkw, hk2', hk3']; done)))
        | (apply AWP.rE; (focus (simp [go_sem, hkw, hk2', hk3']; exact ⟨rfl, rfl⟩)); try dsimp only [thn, inBlk])
        | fail)
      (repeat refine AWP.seq ?_)
      refine AWP.draw hmix [.n 0 [3], .n 1 [6], .n 2 [101], .n 3 [6], .n 4 [103], .n 7 [4], .n 8 [6], .n 9 [108], .n 10 [6], .n 11 [110], .w 5 [100, 102, 104] [9, 11], .n 6 [105], .w 12 [107, 109, 111] [6], .n 13 [112], .n 14 [106, 113]] (by kernel_rfl) ?_
      refine awpD_callR 10 (by rfl) (by rfl) (by simp [go_sem, cp]; exact ⟨rfl, rfl, rfl⟩) (by rfl) (by rfl) (by simp [go_sem]) (by simp [go_sem, cp]; exact ⟨rfl, rfl⟩) (by kernel_rfl) ?_
      refine (read_calls kp.b1 mi q.1.chan q.1.size).mono ?_
      rw [pw1, ← pw2]
      rintro r h8 k8
      obtain ⟨ra, rc, rfl⟩ := k8.os_val
      dsimp only at k8 ⊢
      have c8 := k8.b2.obj
      have s8 := k8.ob_bytes.str (P := Try.prog) (t := 28) (e := 5) (u := 9) Try.underlying28 Try.underlying5 Try.underlying9
      refine ⟨by simp [still, go_sem, c8], ?_⟩
      refine awpD_callR 1 (by rfl) (by rfl) (by simp [go_sem, c8, s8]; exact ⟨rfl, rfl, rfl⟩) (by rfl) (by rfl) (by simp [go_sem]) (by simp [go_sem, c8, s8]; exact ⟨rfl, rfl⟩) (by kernel_rfl) ?_
      refine (dread_calls k8.b3 di q.1.chan q.1.size hC).mono ?_
      rintro r h9 k9
      obtain ⟨ua, uc, rfl⟩ := k9.os_val
      have c9 := k9.b4.obj
      have s9 := k9.b2.ob_bytes.str (P := Try.prog) (t := 28) (e := 5) (u := 9) Try.underlying28 Try.underlying5 Try.underlying9
      have t9 := k9.ob_bytes.str (P := Try.prog) (t := 28) (e := 5) (u := 9) Try.underlying28 Try.underlying5 Try.underlying9
      refine ⟨by simp [still, go_sem, c9, s9], ?_⟩
      refine awpD_restR (by rfl) (by simp [go_sem, c9, s9, t9]; exact ⟨rfl, rfl, rfl⟩) ?_; try dsimp only [thn, inBlk]
      (repeat' first
        | refine AWP.seq ?_
        | refine AWP.block ?_
        | (refine AWP.skip ?_; try dsimp only [thn, inBlk])
        | (refine AWP.exit ?_; try simp only [thn, inBlk, if_true, reduceIte, Nat.reduceEqDiff])
        | (refine AWP.ret ?_; try dsimp only [thn, inBlk])
        | (refine AWP.condT ?_ ?_; (focus (simp [go_sem]; done)))
        | (refine AWP.condF ?_ ?_; (focus (simp [go_sem]; done)))
        | (apply AWP.rE; (focus (simp [go_sem]; exact ⟨rfl, rfl⟩)); try dsimp only [thn, inBlk])
        | fail)
      refine ⟨_, by simp [go_sem], pw3, by rw [hj1]; exact dbw2, ?_⟩
      (refine Own.sbl ?_ (k9); repeat' first | exact Sbl.nil _ | with_reducible exact Sbl.rfl _ | (apply Sbl.cons) | (apply Sbl.skip) | with_reducible exact Fnd.head _ _ | (apply Fnd.tail))
    have hk3' : ((kd : Int) == 3) = false := by simp; omega
    (repeat' first
      | refine AWP.seq ?_
      | refine AWP.block ?_
      | (refine AWP.skip ?_; try dsimp only [thn, inBlk])
      | (refine AWP.exit ?_; try simp only [thn, inBlk, if_true, reduceIte, Nat.reduceEqDiff])
      | (refine AWP.ret ?_; try dsimp only [thn, inBlk])
      | (refine AWP.condT ?_ ?_; (focus (simp [go_sem, hkw, hk2', hk3']; done)))
      | (refine AWP.condF ?_ ?_; (focus (simp [go_sem, hkw, hk2', hk3']; done)))
      | (apply AWP.rE; (focus (simp [go_sem, hkw, hk2', hk3']; exact ⟨rfl, rfl⟩)); try dsimp only [thn, inBlk])
      | fail)
    refine AWP.cutT [3, 4, 6, 19, 20, 21, 115] (fun s h'' => s = ⟨141, [(3, ptr a), (4, ptr b), (6, ptr h4.next), (19, .slice va l.length vc), (20, .int .i64 l.length), (21, .int .i64 (j : Nat)), (115, .bool (decide (kd ≤ 5)))]⟩ ∧ h'' = h5) ?_ ?_
    · by_cases hk : kd = 4
      · subst hk
        (repeat' first
          | refine AWP.seq ?_
          | refine AWP.block ?_
          | (refine AWP.skip ?_; try dsimp only [thn, inBlk])
          | (refine AWP.exit ?_; try simp only [thn, inBlk, if_true, reduceIte, Nat.reduceEqDiff])
          | (refine AWP.ret ?_; try dsimp only [thn, inBlk])
          | (refine AWP.condT ?_ ?_; (focus (simp [go_sem]; done)))
          | (refine AWP.condF ?_ ?_; (focus (simp [go_sem]; done)))
          | (apply AWP.rE; (focus (simp [go_sem]; exact ⟨rfl, rfl⟩)); try dsimp only [thn, inBlk])
          | fail)
        exact ⟨by simp [go_sem], rfl⟩
      · have hk0 : ((kd : Int) == 4) = false := by simp; omega
        have hk1 : ((kd : Int) == 5) = decide (kd ≤ 5) := by rw [Bool.eq_iff_iff]; simp; omega
        (repeat' first
          | refine AWP.seq ?_
          | refine AWP.block ?_
          | (refine AWP.skip ?_; try dsimp only [thn, inBlk])
          | (refine AWP.exit ?_; try simp only [thn, inBlk, if_true, reduceIte, Nat.reduceEqDiff])
          | (refine AWP.ret ?_; try dsimp only [thn, inBlk])
          | (refine AWP.condT ?_ ?_; (focus (simp [go_sem, hk0, hk1]; done)))
          | (refine AWP.condF ?_ ?_; (focus (simp [go_sem, hk0, hk1]; done)))
          | (apply AWP.rE; (focus (simp [go_sem, hk0, hk1]; exact ⟨rfl, rfl⟩)); try dsimp only [thn, inBlk])
          | fail)
        exact ⟨by simp [go_sem], rfl⟩
    rintro s h6 ⟨rfl, rfl⟩
    by_cases hk5 : kd ≤ 5
    · obtain ⟨pw1, pw3⟩ := doutN_pr di 4 (by omega)
      have dbw2 := db.out
      have dl := doutN_len di 4 (by omega)
      (repeat' first
        | refine AWP.seq ?_
        | refine AWP.block ?_
        | (refine AWP.skip ?_; try dsimp only [thn, inBlk])
        | (refine AWP.exit ?_; try simp only [thn, inBlk, if_true, reduceIte, Nat.reduceEqDiff])
        | (refine AWP.ret ?_; try dsimp only [thn, inBlk])
        | (refine AWP.condT ?_ ?_; (focus (simp [go_sem, hk5]; done)))
        | (refine AWP.condF ?_ ?_; (focus (simp [go_sem, hk5]; done)))
        | (apply AWP.rE; (focus (simp [go_sem, hk5]; exact ⟨rfl, rfl⟩)); try dsimp only [thn, inBlk])
        | fail)
      refine AWP.callE (by simp [go_sem]; exact ⟨rfl, rfl, rfl, rfl, rfl⟩) (by kernel_rfl) ?_
      refine (out_calls kp.b1 mi).mono ?_
      rw [mout, pw1]
      rintro r h7 ⟨fa, fc, rfl, k7⟩
      refine awpL_toCall (by simp [go_sem]; exact ⟨rfl, rfl, rfl, rfl, rfl⟩) (by kernel_rfl) ?_
      refine (dmout_calls k7.b3 di hW).mono ?_
      rintro r h8 ⟨ga, gc, rfl, k8⟩
      refine awpL_toCall (by simp [go_sem]; exact ⟨rfl, rfl, rfl, rfl, rfl⟩) (by kernel_rfl) ?_
      refine (same_calls k8.b2.brecs_read k8.brecs_read (by simp only; omega)).mono ?_
      rintro r h9 ⟨rfl, rfl⟩
      refine awpL_restE (by simp [go_sem]; exact ⟨rfl, rfl⟩) ?_; try dsimp only [thn, inBlk]
      (repeat' first
        | refine AWP.seq ?_
        | refine AWP.block ?_
        | (refine AWP.skip ?_; try dsimp only [thn, inBlk])
        | (refine AWP.exit ?_; try simp only [thn, inBlk, if_true, reduceIte, Nat.reduceEqDiff])
        | (refine AWP.ret ?_; try dsimp only [thn, inBlk])
        | (refine AWP.condT ?_ ?_; (focus (simp [go_sem]; done)))
        | (refine AWP.condF ?_ ?_; (focus (simp [go_sem]; done)))
        | (apply AWP.rE; (focus (simp [go_sem]; exact ⟨rfl, rfl⟩)); try dsimp only [thn, inBlk])
        | fail)
      refine ⟨_, by simp [go_sem], pw3, by rw [hj1]; exact dbw2, ?_⟩
      (refine Own.sbl ?_ (k8); repeat' first | exact Sbl.nil _ | with_reducible exact Sbl.rfl _ | (apply Sbl.cons) | (apply Sbl.skip) | with_reducible exact Fnd.head _ _ | (apply Fnd.tail))
    · obtain ⟨pw1, pw3⟩ := dtake_pr di (q.1.fch, q.2)
      have dbw2 := db.take (q.1.fch, q.2) hqb
      (repeat' first
        | refine AWP.seq ?_
        | refine AWP.block ?_
        | (refine AWP.skip ?_; try dsimp only [thn, inBlk])
        | (refine AWP.exit ?_; try simp only [thn, inBlk, if_true, reduceIte, Nat.reduceEqDiff])
        | (refine AWP.ret ?_; try dsimp only [thn, inBlk])
        | (refine AWP.condT ?_ ?_; (focus (simp [go_sem, hk5]; done)))
        | (refine AWP.condF ?_ ?_; (focus (simp [go_sem, hk5]; done)))
        | (apply AWP.rE; (focus (simp [go_sem, hk5]; exact ⟨rfl, rfl⟩)); try dsimp only [thn, inBlk])
        | fail)
      (repeat refine AWP.seq ?_)
      have kn : Own h.asOld _ (ob 5 (.slice (some ⟨h6.next, 0, none⟩) 0 0) [] :: _) := (kp.push (.row [] 5 1 true false)).row_any (n := 0) rfl
      have kf := kn.push (.row [.int .i64 0, .slice none 0 0] 30 2 true false)
      have cn := kn.b1.obj
      have cf := kf.b2.obj
      obtain ⟨xa, xc, h7, e7, k7⟩ := kf.b1.appB (P := Try.prog) (t := 28) (xt := 28) Try.underlying28 tsz5 tby5 tz5 nI28 (hB _ _ kf).src (by simp; omega)
      simp only [List.length_nil, Nat.zero_add, List.nil_append] at e7 k7
      have k7 : Own h.asOld h7 [ob 5 (.slice xa q.2.length xc) q.2, cell (h6.next + 1) (.row [.int .i64 0, .slice none 0 0] 30 2 true false), cell h4.next (.row (orow q oa ocap) 32 6 true false), mux a (prO D) (prI D), dmux b D] := k7
      have c7 := k7.b2.obj
      have d7 := k7.b1.obj
      refine AWP.draw hmix [.n 0 [6], .n 1 [29], .n 2 [30], .n 3 [], .n 4 [6], .n 5 [33], .n 6 [34], .n 9 [], .w 7 [32, 35] [2, 9], .n 8 [31, 36], .w 10 [9, 37] []] (by kernel_rfl) ?_
      refine awpD_writeR 8 (by rfl) (by rfl) (by simp [go_sem, cp, cn, cf, c7, d7, e7]; exact ⟨rfl, rfl, rfl⟩) (by rfl) (by rfl) (by simp [go_sem]) (by simp [go_sem, cp, cn, cf, c7, d7, e7]; exact ⟨rfl, rfl⟩) (by simp [still, go_sem, cp, cn, cf, c7, d7, e7]) ?_
      refine awpD_writeR 1 (by rfl) (by rfl) (by simp [go_sem, cp, cn, cf, c7, d7]; exact ⟨rfl, rfl, rfl⟩) (by rfl) (by rfl) (by simp [go_sem]) (by simp [go_sem, cp, cn, cf, c7, d7]; exact ⟨rfl, rfl⟩) (by simp [still, go_sem, cp, cn, cf, c7, d7]) ?_
      refine awpD_restR (by rfl) (by simp [go_sem]; exact ⟨rfl, rfl, rfl⟩) ?_; try dsimp only [thn, inBlk]
      have k8 := k7.b1.set (.row [.int .i64 q.1.fch, .slice xa q.2.length xc] 30 2 true false)
      have c8 := k8.b2.obj
      have d8 := k8.obj
      (repeat refine AWP.seq ?_)
      refine AWP.draw hmix [.n 0 [3], .n 1 [9], .n 3 [4], .n 4 [6], .n 5 [42], .w 2 [38, 39] [5], .w 6 [41, 43] [], .n 7 [40, 44]] (by kernel_rfl) ?_
      refine awpD_callR 5 (by rfl) (by rfl) (by simp [go_sem, c8, d8]; exact ⟨rfl, rfl, rfl⟩) (by rfl) (by rfl) (by simp [go_sem]) (by simp [go_sem, c8, d8]; exact ⟨rfl, rfl⟩) (by kernel_rfl) ?_
      have T1 := take_calls (q.1.fch, q.2) k8.b3 mi (fun hh kk => kk.b1.ob_bytes) (by simp only; omega)
      rw [pw1] at T1
      refine T1.mono ?_
      rintro r h9 ⟨rfl, k9⟩
      have c9 := k9.b3.obj
      have d9 := k9.b1.obj
      refine ⟨by simp [still, go_sem, c9, d9], ?_⟩
      refine awpD_callR 0 (by rfl) (by rfl) (by simp [go_sem, c9, d9]; exact ⟨rfl, rfl, rfl⟩) (by rfl) (by rfl) (by simp [go_sem]) (by simp [go_sem, c9, d9]; exact ⟨rfl, rfl⟩) (by kernel_rfl) ?_
      have T2 := dtake_calls (a := oa) (cap := ocap) (q.1.fch, q.2) k9.b4 di (fun hh kk => hB _ _ kk) (by simp only; omega) hC
      refine T2.mono ?_
      rintro r h10 ⟨rfl, k10⟩
      have c10 := k10.b4.obj
      have d10 := k10.b2.obj
      refine ⟨by simp [still, go_sem, c10, d10], ?_⟩
      refine awpD_restR (by rfl) (by simp [go_sem]; exact ⟨rfl, rfl, rfl⟩) ?_; try dsimp only [thn, inBlk]
      obtain ⟨D2, hD2⟩ : ∃ D2, D2 = (dtake D (q.1.fch, q.2)).2 := ⟨_, rfl⟩
      dsimp only at k10
      rw [← hD2] at k10 pw3 dbw2
      (repeat' first
        | refine AWP.seq ?_
        | refine AWP.block ?_
        | (refine AWP.skip ?_; try dsimp only [thn, inBlk])
        | (refine AWP.exit ?_; try simp only [thn, inBlk, if_true, reduceIte, Nat.reduceEqDiff])
        | (refine AWP.ret ?_; try dsimp only [thn, inBlk])
        | (refine AWP.condT ?_ ?_; (focus (simp [go_sem]; done)))
        | (refine AWP.condF ?_ ?_; (focus (simp [go_sem]; done)))
        | (apply AWP.rE; (focus (simp [go_sem]; exact ⟨rfl, rfl⟩)); try dsimp only [thn, inBlk])
        | fail)
      have d10 := k10.b2.obj
      (repeat' first
        | refine AWP.seq ?_
        | refine AWP.block ?_
        | (refine AWP.skip ?_; try dsimp only [thn, inBlk])
        | (refine AWP.exit ?_; try simp only [thn, inBlk, if_true, reduceIte, Nat.reduceEqDiff])
        | (refine AWP.ret ?_; try dsimp only [thn, inBlk])
        | (refine AWP.condT ?_ ?_; (focus (simp [go_sem, d10]; done)))
        | (refine AWP.condF ?_ ?_; (focus (simp [go_sem, d10]; done)))
        | (apply AWP.rE; (focus (simp [go_sem, d10]; exact ⟨rfl, rfl⟩)); try dsimp only [thn, inBlk])
        | fail)
      obtain ⟨N, hN⟩ : ∃ N, N = q.2.length := ⟨_, rfl⟩
      rw [← hN] at k10 ⊢
      refine AWP.loopR [3, 4, 6, 9, 19, 20, 21, 48, 49] (fun m s h' => ∃ (e : Nat) (bs : List UInt8), e ≤ N ∧ m = N - e ∧ bs.length = N ∧ s = ⟨141, [(3, ptr a), (4, ptr b), (6, ptr h4.next), (9, ptr (h6.next + 1)), (19, .slice va l.length vc), (20, .int .i64 l.length), (21, .int .i64 (j : Nat)), (48, .int .i64 (N : Nat)), (49, .int .i64 (e : Nat))]⟩ ∧
        Own h.asOld h' [ob 5 (.slice xa N xc) bs, cell (h6.next + 1) (.row [.int .i64 q.1.fch, .slice xa N xc] 30 2 true false), mux a (prO D2) (prI D2), dmux b D2, cell h4.next (.row (orow q oa ocap) 32 6 true false)]) ?_ ?_
      · exact ⟨_, 0, q.2, by omega, rfl, hN.symm, by simp [go_sem], by (refine Own.sbl ?_ (k10); repeat' first | exact Sbl.nil _ | with_reducible exact Sbl.rfl _ | (apply Sbl.cons) | (apply Sbl.skip) | with_reducible exact Fnd.head _ _ | (apply Fnd.tail))⟩
      rintro m s h12 ⟨e, bs, he, rfl, hbl, rfl, k12⟩
      by_cases he2 : e < N
      rotate_left
      · have he3 : ¬ (e : Int) < (N : Nat) := by omega
        (repeat' first
          | refine AWP.seq ?_
          | refine AWP.block ?_
          | (refine AWP.skip ?_; try dsimp only [thn, inBlk])
          | (refine AWP.exit ?_; try simp only [thn, inBlk, if_true, reduceIte, Nat.reduceEqDiff])
          | (refine AWP.ret ?_; try dsimp only [thn, inBlk])
          | (refine AWP.condT ?_ ?_; (focus (simp [go_sem, he3]; done)))
          | (refine AWP.condF ?_ ?_; (focus (simp [go_sem, he3]; done)))
          | (apply AWP.rE; (focus (simp [go_sem, he3]; exact ⟨rfl, rfl⟩)); try dsimp only [thn, inBlk])
          | fail)
        exact ⟨D2, by simp [go_sem], pw3, by rw [hj1]; exact dbw2, k12.tail.tail⟩
      have he3 : (e : Int) < (N : Nat) := by omega
      obtain ⟨e1, he1⟩ : ∃ e1, e1 = e + 1 := ⟨_, rfl⟩
      have we1 : IntKind.i64.wrap ((e : Int) + 1) = (e1 : Int) := by rw [wI64 (by omega) (by omega)]; omega
      obtain ⟨wi, wo, wc, wt, w1, w2, w3, w4⟩ := k12.ob_write (P := Try.prog) Try.underlying28 tsz5 (j := e) (by omega) 238 (kd := .i64)
      have w3' : wo + 1 ≤ wc.length := w3
      have d12 := k12.b1.obj
      (repeat' first
        | refine AWP.seq ?_
        | refine AWP.block ?_
        | (refine AWP.skip ?_; try dsimp only [thn, inBlk])
        | (refine AWP.exit ?_; try simp only [thn, inBlk, if_true, reduceIte, Nat.reduceEqDiff])
        | (refine AWP.ret ?_; try dsimp only [thn, inBlk])
        | (refine AWP.condT ?_ ?_; (focus (simp [go_sem, he3, d12, w1, w2, w3, w3', we1]; done)))
        | (refine AWP.condF ?_ ?_; (focus (simp [go_sem, he3, d12, w1, w2, w3, w3', we1]; done)))
        | (apply AWP.rE; (focus (simp [go_sem, he3, d12, w1, w2, w3, w3', we1]; exact ⟨rfl, rfl⟩)); try dsimp only [thn, inBlk])
        | fail)
      exact ⟨N - e1, by omega, e1, bs.set e 238, by omega, rfl, by simp [hbl], by simp [go_sem], w4⟩
  rintro s h5 ⟨D, rfl, di, db, kt⟩
  have hW : ∀ c, (dg D c).w.length ≤ 1000000000 := fun c => by have := db.w c; omega
  have cl := kt.b2.obj
  have emi : midle (prO D) (prI D) = decide ((doutN D 4).1.length = 0) := by
    rw [midle_out, mout, (doutN_pr di 4 (by omega)).1]
  have een := dended_pr di q.1.chan
  refine AWP.seq ?_
  refine AWP.draw hmix [.n 0 [3], .n 2 [4], .w 1 [124] [], .w 3 [126] [], .n 4 [125, 127], .n 5 [128], .n 6 [3, 129], .n 7 [6, 129], .n 8 [131, 129], .n 10 [4, 129], .n 11 [6, 129], .n 12 [135, 129], .w 9 [130, 132, 129] [12], .w 13 [134, 136, 129] [], .n 14 [133, 137, 129], .n 15 [129, 138]] (by kernel_rfl) ?_
  refine awpD_callR 2 (by rfl) (by rfl) (by simp [go_sem, cl]; exact ⟨rfl, rfl, rfl⟩) (by rfl) (by rfl) (by simp [go_sem]) (by simp [go_sem, cl]; exact ⟨rfl, rfl⟩) (by kernel_rfl) ?_
  refine (idle_calls kt).mono ?_
  rintro r h6 ⟨rfl, k6⟩
  have cl6 := k6.b2.obj
  refine ⟨by simp [still, go_sem, cl6], ?_⟩
  refine awpD_callR 0 (by rfl) (by rfl) (by simp [go_sem, cl6]; exact ⟨rfl, rfl, rfl⟩) (by rfl) (by rfl) (by simp [go_sem]) (by simp [go_sem, cl6]; exact ⟨rfl, rfl⟩) (by kernel_rfl) ?_
  refine (didle_calls k6.b1 di hW).mono ?_
  rw [← emi]
  rintro r h7 ⟨rfl, k7⟩
  have cl7 := k7.b2.obj
  refine ⟨by simp [still, go_sem, cl7], ?_⟩
  refine awpD_callR 8 (by rfl) (by rfl) (by simp [go_sem, cl7]; exact ⟨rfl, rfl, rfl⟩) (by rfl) (by rfl) (by simp [go_sem]) (by simp [go_sem, cl7]; exact ⟨rfl, rfl⟩) (by kernel_rfl) ?_
  refine (ended_calls k7.b1 q.1.chan).mono ?_
  rintro r h8 ⟨rfl, rfl⟩
  refine ⟨by simp [still, go_sem, cl7], ?_⟩
  refine awpD_callR 0 (by rfl) (by rfl) (by simp [go_sem, cl7]; exact ⟨rfl, rfl, rfl⟩) (by rfl) (by rfl) (by simp [go_sem]) (by simp [go_sem, cl7]; exact ⟨rfl, rfl⟩) (by kernel_rfl) ?_
  refine (dended_calls k7 q.1.chan).mono ?_
  rw [← een]
  rintro r h9 ⟨rfl, rfl⟩
  refine ⟨by simp [still, go_sem, cl7], ?_⟩
  refine awpD_restR (by rfl) (by simp [go_sem]; exact ⟨rfl, rfl, rfl⟩) ?_; try dsimp only [thn, inBlk]
  (repeat' first
    | refine AWP.seq ?_
    | refine AWP.block ?_
    | (refine AWP.skip ?_; try dsimp only [thn, inBlk])
    | (refine AWP.exit ?_; try simp only [thn, inBlk, if_true, reduceIte, Nat.reduceEqDiff])
    | (refine AWP.ret ?_; try dsimp only [thn, inBlk])
    | (refine AWP.condT ?_ ?_; (focus (simp [go_sem, wj]; done)))
    | (refine AWP.condF ?_ ?_; (focus (simp [go_sem, wj]; done)))
    | (apply AWP.rE; (focus (simp [go_sem, wj]; exact ⟨rfl, rfl⟩)); try dsimp only [thn, inBlk])
    | fail)
  exact ⟨l.length - j1, by omega, j1, D, by omega, rfl, by simp [go_sem], di, db, k7.b1.d2⟩
end L18
