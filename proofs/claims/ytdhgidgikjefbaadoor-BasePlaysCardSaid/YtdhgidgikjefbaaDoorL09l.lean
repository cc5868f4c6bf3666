import Derived.Test.YtdhgidgikjefbaaDoorL09k
open Go Ab Go.Proofs
namespace L09
set_option autoImplicit false
set_option linter.unusedSimpArgs false
set_option linter.unusedVariables false

/-! ### The entry that was put last -/
theorem keyLits_u8s {P : Program} {t e : TypeId} {n d : Nat} (ht : P.underlying t = some (.array n e)) (he : P.underlying e = some (.int .u8)) (ce : P.cellsOf e = 1) (ct : P.cellsOf t = n) (bs : List UInt8) (hb : bs.length = n) :
    ∃ L, P.keyLits (d + 2) t (bs.map B) = some L := by
  unfold Program.keyLits
  simp only [ht, ce, Nat.mul_one]
  rw [if_pos (by rw [ct, List.length_map, hb])]
  have key : ∀ (is : List Nat), (∀ i ∈ is, i < n) → ∃ L, is.mapM (fun i => P.keyLits (d + 1) e (((bs.map B).drop i).take 1)) = some L := by
    intro is
    induction is with
    | nil => exact fun _ => ⟨[], rfl⟩
    | cons i is ih =>
      intro h
      obtain ⟨L, hL⟩ := ih fun j hj => h j (by simp [hj])
      have hi : i < bs.length := by rw [hb]; exact h i (by simp)
      have e1 : ((bs.map B).drop i).take 1 = [B bs[i]] := by
        rw [List.drop_eq_getElem_cons (by simpa using hi)]
        simp
      have e2 : P.keyLits (d + 1) e [B bs[i]] = some [.int .u8 bs[i].toNat] := by
        unfold Program.keyLits
        simp only [he, B]
        rw [if_pos ⟨trivial, by simp [Lit.wf, IntKind.min, IntKind.max, IntKind.signed, IntKind.bits]; have := bs[i].toNat_lt; omega⟩]
      rw [List.mapM_cons, e1, e2, hL]
      exact ⟨_, rfl⟩
  obtain ⟨L, hL⟩ := key (List.range n) (fun i hi => List.mem_range.1 hi)
  rw [hL]
  exact ⟨_, rfl⟩
unseal en in
theorem en_lit (e : En) (h : e.Wf) (hn : e.nm.length ≤ 1000000) : ∃ l, keyOf Tryd.prog 34 (enV e) = some l := by
  have hk : Tryd.prog.keyType 34 = true := by kernel_rfl
  have c34 : Tryd.prog.cellsOf 34 = 20 := by kernel_rfl
  have c9 : Tryd.prog.cellsOf 9 = 1 := by kernel_rfl
  have c2 : Tryd.prog.cellsOf 2 = 1 := by kernel_rfl
  have c3 : Tryd.prog.cellsOf 3 = 1 := by kernel_rfl
  have c4 : Tryd.prog.cellsOf 4 = 1 := by kernel_rfl
  have c32 : Tryd.prog.cellsOf 32 = 16 := by kernel_rfl
  have c5 : Tryd.prog.cellsOf 5 = 1 := by kernel_rfl
  have hsz : ∃ m, Tryd.prog.types.size + 1 = m + 3 := ⟨Tryd.prog.types.size - 2, by have : 2 ≤ Tryd.prog.types.size := of_decide_eq_true (by kernel_rfl); omega⟩
  obtain ⟨m, hm⟩ := hsz
  have hl := en_len (e := e)
  obtain ⟨L, hL⟩ := keyLits_u8s (d := m) Tryd.underlying32 Tryd.underlying5 c5 c32 (k16 e.ky) (k16_len _)
  have hm' : maxLen = 9223372036854775807 := by decide
  have h2 := h.life
  have h3 := h.flags
  unfold keyOf
  simp only [Tryd.underlying34, hk, Value.formed, c34, Value.cells, List.size_toArray, hl]
  rw [if_pos (by simp)]
  rw [hm]
  unfold Program.keyLits
  simp only [Tryd.underlying34, c34, hl, c9, c2, c3, c4, c32]
  rw [if_pos (by simp)]
  have k9 : Tryd.prog.keyLits (m + 2) 9 [.string ⟨e.nm.toArray⟩] = some [.string e.nm] := by
    unfold Program.keyLits
    simp only [Tryd.underlying9]
    have : ByteArray.size ⟨e.nm.toArray⟩ = e.nm.length := rfl
    rw [if_pos (by rw [this, hm']; omega)]
  have k2 : Tryd.prog.keyLits (m + 2) 2 [.int .i64 e.life] = some [.int .i64 e.life] := by
    unfold Program.keyLits
    simp only [Tryd.underlying2]
    rw [if_pos ⟨trivial, by simp [Lit.wf, IntKind.min, IntKind.max, IntKind.signed, IntKind.bits]; omega⟩]
  have k3 : Tryd.prog.keyLits (m + 2) 3 [.int .i64 e.flags] = some [.int .i64 e.flags] := by
    unfold Program.keyLits
    simp only [Tryd.underlying3]
    rw [if_pos ⟨trivial, by simp [Lit.wf, IntKind.min, IntKind.max, IntKind.signed, IntKind.bits]; omega⟩]
  have k4 : Tryd.prog.keyLits (m + 2) 4 [.bool e.off] = some [.bool e.off] := by
    unfold Program.keyLits
    simp only [Tryd.underlying4]
  have g1 : (en e).tail.take 16 = (k16 e.ky).map B := by
    show ((k16 e.ky).map B ++ _).take 16 = _
    rw [List.take_append_of_le_length (by simp [k16_len]), List.take_of_length_le (by simp [k16_len])]
  have g17 : ((en e).drop 17).take 1 = [.int .i64 e.life] := by
    rw [List.drop_eq_getElem_cons (by rw [hl]; omega), List.take_succ_cons, List.take_zero, en_g17]
  have g18 : ((en e).drop 18).take 1 = [.int .i64 e.flags] := by
    rw [List.drop_eq_getElem_cons (by rw [hl]; omega), List.take_succ_cons, List.take_zero, en_g18]
  have g19 : ((en e).drop 19).take 1 = [.bool e.off] := by
    rw [List.drop_eq_getElem_cons (by rw [hl]; omega), List.take_succ_cons, List.take_zero, en_g19]
  have g0 : (en e).take 1 = [tx e.nm] := rfl
  simp [c9, c2, c3, c4, c32, k9, k2, k3, k4, g0, g1, g17, g18, g19, hL]
theorem enEq : EqLaw Tryd.prog 34 := EqLaw.deep (m := 3) (by kernel_rfl) (by omega) (of_decide_eq_true (by kernel_rfl)) (by kernel_rfl) (by kernel_rfl) (by kernel_rfl)
open Classical in
theorem en_eq {e : En} (h : e.Wf) (hn : e.nm.length ≤ 1000000) : aggEqR Tryd.prog .eql 34 (enV e) (enV e) = some (.bool true) := by
  unfold aggEqR
  rw [if_pos ⟨enEq, en_flat, en_flat, ⟨_, rfl⟩, ⟨_, rfl⟩, en_lit e h hn, en_lit e h hn⟩]
  simp

set_option maxHeartbeats 16000000 in
theorem last_calls {h : AHeap} {w : Value} {e : En} {s1 : List Op} (hb : h.base = h.next) (hp : Script h w s1) (hn1 : s1.length ≤ 9223372036854775807) (he : e.Wf) :
    ACalls Tryd.prog 4 #[enV e, w] h fun r _ => r = .bool true := by
  refine Own.of_wf fun k0 => ?_
  obtain ⟨va, vc, rfl⟩ := hp.val
  refine ACalls.of_awp (args := [enV e, .slice va s1.length vc]) (n := 109) Tryd.func4 rfl rfl (by show 2 ≤ 109; omega) ?_
  have kb := k0.push (.row (en e) 34 20 true false)
  have cb := kb.obj
  (repeat' first
    | refine AWP.seq ?_
    | refine AWP.block ?_
    | (refine AWP.skip ?_; try dsimp only [thn, inBlk])
    | (refine AWP.exit ?_; try simp only [thn, inBlk, if_true, reduceIte, Nat.reduceEqDiff])
    | (refine AWP.ret ?_; try dsimp only [thn, inBlk])
    | (refine AWP.condT ?_ ?_; (focus (simp [go_sem]; done)))
    | (refine AWP.condF ?_ ?_; (focus (simp [go_sem]; done)))
    | (apply AWP.rE; (focus (simp [go_sem]; exact ⟨rfl, rfl⟩)); try dsimp only [thn, inBlk])
    | fail)
  refine AWP.callE (by simp [go_sem]; exact ⟨rfl, rfl, rfl, rfl, rfl⟩) (by kernel_rfl) ?_
  refine (speaks_calls kb).mono ?_
  rintro r h1 ⟨rfl, k1⟩
  refine awpL_restE (by simp [go_sem]; exact ⟨rfl, rfl⟩) ?_; try dsimp only [thn, inBlk]
  (repeat' first
    | refine AWP.seq ?_
    | refine AWP.block ?_
    | (refine AWP.skip ?_; try dsimp only [thn, inBlk])
    | (refine AWP.exit ?_; try simp only [thn, inBlk, if_true, reduceIte, Nat.reduceEqDiff])
    | (refine AWP.ret ?_; try dsimp only [thn, inBlk])
    | (refine AWP.condT ?_ ?_; (focus (simp [go_sem]; done)))
    | (refine AWP.condF ?_ ?_; (focus (simp [go_sem]; done)))
    | (apply AWP.rE; (focus (simp [go_sem]; exact ⟨rfl, rfl⟩)); try dsimp only [thn, inBlk])
    | fail)
  refine AWP.callE (by simp [go_sem]; exact ⟨rfl, rfl, rfl, rfl, rfl⟩) (by kernel_rfl) ?_
  refine (great_calls k1 (fun hh kk => hp.of_old hb kk) hn1).mono ?_
  rintro r h2 ⟨b1, rfl, g1, k2⟩
  have c2 := k2.obj
  cases b1
  rotate_left
  · refine awpL_restE (by simp [go_sem, c2]; exact ⟨rfl, rfl⟩) ?_; try dsimp only [thn, inBlk]
    (repeat' first
      | refine AWP.seq ?_
      | refine AWP.block ?_
      | (refine AWP.skip ?_; try dsimp only [thn, inBlk])
      | (refine AWP.exit ?_; try simp only [thn, inBlk, if_true, reduceIte, Nat.reduceEqDiff])
      | (refine AWP.ret ?_; try dsimp only [thn, inBlk])
      | (refine AWP.condT ?_ ?_; (focus (simp [go_sem]; done)))
      | (refine AWP.condF ?_ ?_; (focus (simp [go_sem]; done)))
      | (apply AWP.rE; (focus (simp [go_sem]; exact ⟨rfl, rfl⟩)); try dsimp only [thn, inBlk])
      | fail)
    simp [bodyQ, thn, inBlk, resA, resV, go_sem]
  obtain ⟨l1, o1⟩ := g1 rfl
  by_cases hn : 300 < e.nm.length
  · have hn' : (300 : Int) < e.nm.length := by omega
    refine awpL_restE (by simp [go_sem, c2, hn']; exact ⟨rfl, rfl⟩) ?_; try dsimp only [thn, inBlk]
    (repeat' first
      | refine AWP.seq ?_
      | refine AWP.block ?_
      | (refine AWP.skip ?_; try dsimp only [thn, inBlk])
      | (refine AWP.exit ?_; try simp only [thn, inBlk, if_true, reduceIte, Nat.reduceEqDiff])
      | (refine AWP.ret ?_; try dsimp only [thn, inBlk])
      | (refine AWP.condT ?_ ?_; (focus (simp [go_sem]; done)))
      | (refine AWP.condF ?_ ?_; (focus (simp [go_sem]; done)))
      | (apply AWP.rE; (focus (simp [go_sem]; exact ⟨rfl, rfl⟩)); try dsimp only [thn, inBlk])
      | fail)
    simp [bodyQ, thn, inBlk, resA, resV, go_sem]
  have hn' : ¬ (300 : Int) < e.nm.length := by omega
  refine awpL_restE (by simp [go_sem, c2, hn']; exact ⟨rfl, rfl⟩) ?_; try dsimp only [thn, inBlk]
  (repeat' first
    | refine AWP.seq ?_
    | refine AWP.block ?_
    | (refine AWP.skip ?_; try dsimp only [thn, inBlk])
    | (refine AWP.exit ?_; try simp only [thn, inBlk, if_true, reduceIte, Nat.reduceEqDiff])
    | (refine AWP.ret ?_; try dsimp only [thn, inBlk])
    | (refine AWP.condT ?_ ?_; (focus (simp [go_sem]; done)))
    | (refine AWP.condF ?_ ?_; (focus (simp [go_sem]; done)))
    | (apply AWP.rE; (focus (simp [go_sem]; exact ⟨rfl, rfl⟩)); try dsimp only [thn, inBlk])
    | fail)
  refine AWP.callE (by simp [go_sem]; exact ⟨rfl, rfl, rfl, rfl, rfl⟩) (by kernel_rfl) ?_
  refine (new_calls k2).mono ?_
  rintro r h4 ⟨i, rfl, k4⟩
  have c4 := k4.b1.obj
  refine awpL_restE (by simp [go_sem]; exact ⟨rfl, rfl⟩) ?_; try dsimp only [thn, inBlk]
  (repeat' first
    | refine AWP.seq ?_
    | refine AWP.block ?_
    | (refine AWP.skip ?_; try dsimp only [thn, inBlk])
    | (refine AWP.exit ?_; try simp only [thn, inBlk, if_true, reduceIte, Nat.reduceEqDiff])
    | (refine AWP.ret ?_; try dsimp only [thn, inBlk])
    | (refine AWP.condT ?_ ?_; (focus (simp [go_sem]; done)))
    | (refine AWP.condF ?_ ?_; (focus (simp [go_sem]; done)))
    | (apply AWP.rE; (focus (simp [go_sem]; exact ⟨rfl, rfl⟩)); try dsimp only [thn, inBlk])
    | fail)
  refine AWP.callE (by simp [go_sem, c4]; exact ⟨rfl, rfl, rfl, rfl, rfl⟩) (by kernel_rfl) ?_
  refine (put_calls (e := e) BI.nil k4 (by omega)).mono ?_
  rintro r h5 ⟨rfl, k5⟩
  have c5 := k5.b1.obj
  by_cases hg : goodE e = true
  rotate_left
  · have e1 : putR [] e = (1, []) := by unfold putR; rw [if_pos (by simpa using hg)]
    rw [e1] at k5 ⊢
    refine awpL_restE (by simp [go_sem]; exact ⟨rfl, rfl⟩) ?_; try dsimp only [thn, inBlk]
    (repeat' first
      | refine AWP.seq ?_
      | refine AWP.block ?_
      | (refine AWP.skip ?_; try dsimp only [thn, inBlk])
      | (refine AWP.exit ?_; try simp only [thn, inBlk, if_true, reduceIte, Nat.reduceEqDiff])
      | (refine AWP.ret ?_; try dsimp only [thn, inBlk])
      | (refine AWP.condT ?_ ?_; (focus (simp [go_sem]; done)))
      | (refine AWP.condF ?_ ?_; (focus (simp [go_sem]; done)))
      | (apply AWP.rE; (focus (simp [go_sem]; exact ⟨rfl, rfl⟩)); try dsimp only [thn, inBlk])
      | fail)
    refine AWP.callE (by simp [go_sem, c5]; exact ⟨rfl, rfl, rfl, rfl, rfl⟩) (by kernel_rfl) ?_
    refine (get_calls (n := e.nm) BI.nil k5 (by omega)).mono ?_
    rintro r h6 ⟨rfl, k6⟩
    have e2 : getR [] e.nm = (zE, false) := rfl
    rw [e2]
    have k7 := (k6.push (.row (en zE) 34 20 true false)).b1
    refine awpL_restE (by simp [go_sem, ↓allocE]; exact ⟨rfl, rfl⟩) ?_; try dsimp only [thn, inBlk]
    (repeat' first
      | refine AWP.seq ?_
      | refine AWP.block ?_
      | (refine AWP.skip ?_; try dsimp only [thn, inBlk])
      | (refine AWP.exit ?_; try simp only [thn, inBlk, if_true, reduceIte, Nat.reduceEqDiff])
      | (refine AWP.ret ?_; try dsimp only [thn, inBlk])
      | (refine AWP.condT ?_ ?_; (focus (simp [go_sem]; done)))
      | (refine AWP.condF ?_ ?_; (focus (simp [go_sem]; done)))
      | (apply AWP.rE; (focus (simp [go_sem]; exact ⟨rfl, rfl⟩)); try dsimp only [thn, inBlk])
      | fail)
    refine AWP.callE (by simp [go_sem]; exact ⟨rfl, rfl, rfl, rfl, rfl⟩) (by kernel_rfl) ?_
    refine (list_calls BI.nil k7).mono ?_
    rintro r h8 ⟨a8, c8, rfl, k8⟩
    rw [listL_len]
    refine awpL_restE (by simp [go_sem]; exact ⟨rfl, rfl⟩) ?_; try dsimp only [thn, inBlk]
    (repeat' first
      | refine AWP.seq ?_
      | refine AWP.block ?_
      | (refine AWP.skip ?_; try dsimp only [thn, inBlk])
      | (refine AWP.exit ?_; try simp only [thn, inBlk, if_true, reduceIte, Nat.reduceEqDiff])
      | (refine AWP.ret ?_; try dsimp only [thn, inBlk])
      | (refine AWP.condT ?_ ?_; (focus (simp [go_sem]; done)))
      | (refine AWP.condF ?_ ?_; (focus (simp [go_sem]; done)))
      | (apply AWP.rE; (focus (simp [go_sem]; exact ⟨rfl, rfl⟩)); try dsimp only [thn, inBlk])
      | fail)
    simp [bodyQ, thn, inBlk, resA, resV, go_sem]
  have e1 : putR [] e = (0, [(e.nm, e)]) := by
    unfold putR; rw [if_neg (by simpa using hg), if_neg (by simp [get])]; rfl
  have bi1 : BI [(e.nm, e)] := by have := BI.nil.put (e := e) (by omega); rw [e1] at this; exact this
  rw [e1] at k5 ⊢
  refine awpL_restE (by simp [go_sem]; exact ⟨rfl, rfl⟩) ?_; try dsimp only [thn, inBlk]
  (repeat' first
    | refine AWP.seq ?_
    | refine AWP.block ?_
    | (refine AWP.skip ?_; try dsimp only [thn, inBlk])
    | (refine AWP.exit ?_; try simp only [thn, inBlk, if_true, reduceIte, Nat.reduceEqDiff])
    | (refine AWP.ret ?_; try dsimp only [thn, inBlk])
    | (refine AWP.condT ?_ ?_; (focus (simp [go_sem]; done)))
    | (refine AWP.condF ?_ ?_; (focus (simp [go_sem]; done)))
    | (apply AWP.rE; (focus (simp [go_sem]; exact ⟨rfl, rfl⟩)); try dsimp only [thn, inBlk])
    | fail)
  refine AWP.loopR [2, 5, 44, 45, 46] (fun m s h' => ∃ (j : Nat) (L : BL), j ≤ s1.length ∧ m = s1.length - j ∧ s = ⟨109, [(2, ptr h.next), (5, ptr i), (44, .slice va s1.length vc), (45, .int .i64 s1.length), (46, .int .i64 j)]⟩ ∧ BI L ∧ get L e.nm = some e ∧ Own h.asOld h' [bsc i L, cell h.next (.row (en e) 34 20 true false)]) ?_ ?_
  · exact ⟨_, 0, _, by omega, rfl, rfl, bi1, by simp [get], k5⟩
  rintro m s hB ⟨j, L, hj, rfl, rfl, bi, hget, kB⟩
  by_cases hjm : j < s1.length
  · have hjm' : (j : Int) < s1.length := by omega
    have hOB := o1 _ (List.getElem_mem hjm)
    obtain ⟨i0, f0, c0, q0', z0, ti0, ro0, p0, q0, m0, t0⟩ := (hp.of_old hb kB).at hjm
    generalize s1[j] = o at t0 hOB
    have w1 : IntKind.i64.wrap ((j : Int) + 1) = ((j + 1 : Nat) : Int) := by rw [wI64 (by omega) (by omega)]; omega
    have k6 := kB.push (.row (op o) 36 21 true false)
    have c6 := k6.obj
    have c7 := k6.b2.obj
    by_cases hnm : o.e.nm = e.nm
    · have hnm' : (o.e.nm == e.nm) = true := by simpa using hnm
      (repeat' first
        | refine AWP.seq ?_
        | refine AWP.block ?_
        | (refine AWP.skip ?_; try dsimp only [thn, inBlk])
        | (refine AWP.exit ?_; try simp only [thn, inBlk, if_true, reduceIte, Nat.reduceEqDiff])
        | (refine AWP.ret ?_; try dsimp only [thn, inBlk])
        | (refine AWP.condT ?_ ?_; (focus (simp [go_sem, hjm', p0, q0, m0, t0, ↓allocO, c6, c7, hnm', w1]; done)))
        | (refine AWP.condF ?_ ?_; (focus (simp [go_sem, hjm', p0, q0, m0, t0, ↓allocO, c6, c7, hnm', w1]; done)))
        | (apply AWP.rE; (focus (simp [go_sem, hjm', p0, q0, m0, t0, ↓allocO, c6, c7, hnm', w1]; exact ⟨rfl, rfl⟩)); try dsimp only [thn, inBlk])
        | fail)
      exact ⟨s1.length - (j + 1), by omega, j + 1, L, by omega, rfl, by simp [go_sem], bi, hget, k6.tail⟩
    have hnm' : (o.e.nm == e.nm) = false := by simpa using hnm
    obtain ⟨K, hK1, wK⟩ := and_mask o.k 1 (by omega)
    by_cases hK : K = 0
    · subst hK
      (repeat' first
        | refine AWP.seq ?_
        | refine AWP.block ?_
        | (refine AWP.skip ?_; try dsimp only [thn, inBlk])
        | (refine AWP.exit ?_; try simp only [thn, inBlk, if_true, reduceIte, Nat.reduceEqDiff])
        | (refine AWP.ret ?_; try dsimp only [thn, inBlk])
        | (refine AWP.condT ?_ ?_; (focus (simp [go_sem, hjm', p0, q0, m0, t0, ↓allocO, c6, c7, hnm', wK]; done)))
        | (refine AWP.condF ?_ ?_; (focus (simp [go_sem, hjm', p0, q0, m0, t0, ↓allocO, c6, c7, hnm', wK]; done)))
        | (apply AWP.rE; (focus (simp [go_sem, hjm', p0, q0, m0, t0, ↓allocO, c6, c7, hnm', wK]; exact ⟨rfl, rfl⟩)); try dsimp only [thn, inBlk])
        | fail)
      refine AWP.callE (by simp [go_sem, c6]; exact ⟨rfl, rfl, rfl, rfl, rfl⟩) (by kernel_rfl) ?_
      refine (drop_calls (n := o.e.nm) bi k6.b1 (by omega)).mono ?_
      rintro r h8 ⟨rfl, k8⟩
      refine awpL_restE (by simp [go_sem]; exact ⟨rfl, rfl⟩) ?_; try dsimp only [thn, inBlk]
      (repeat' first
        | refine AWP.seq ?_
        | refine AWP.block ?_
        | (refine AWP.skip ?_; try dsimp only [thn, inBlk])
        | (refine AWP.exit ?_; try simp only [thn, inBlk, if_true, reduceIte, Nat.reduceEqDiff])
        | (refine AWP.ret ?_; try dsimp only [thn, inBlk])
        | (refine AWP.condT ?_ ?_; (focus (simp [go_sem, w1]; done)))
        | (refine AWP.condF ?_ ?_; (focus (simp [go_sem, w1]; done)))
        | (apply AWP.rE; (focus (simp [go_sem, w1]; exact ⟨rfl, rfl⟩)); try dsimp only [thn, inBlk])
        | fail)
      exact ⟨s1.length - (j + 1), by omega, j + 1, _, by omega, rfl, by simp [go_sem], bi.drop _, by rw [get_dropT hnm]; exact hget, k8.d1⟩
    · (repeat' first
        | refine AWP.seq ?_
        | refine AWP.block ?_
        | (refine AWP.skip ?_; try dsimp only [thn, inBlk])
        | (refine AWP.exit ?_; try simp only [thn, inBlk, if_true, reduceIte, Nat.reduceEqDiff])
        | (refine AWP.ret ?_; try dsimp only [thn, inBlk])
        | (refine AWP.condT ?_ ?_; (focus (simp [go_sem, hjm', p0, q0, m0, t0, ↓allocO, c6, c7, hnm', wK, hK]; done)))
        | (refine AWP.condF ?_ ?_; (focus (simp [go_sem, hjm', p0, q0, m0, t0, ↓allocO, c6, c7, hnm', wK, hK]; done)))
        | (apply AWP.rE; (focus (simp [go_sem, hjm', p0, q0, m0, t0, ↓allocO, c6, c7, hnm', wK, hK]; exact ⟨rfl, rfl⟩)); try dsimp only [thn, inBlk])
        | fail)
      refine AWP.callE (by simp [go_sem, c6]; exact ⟨rfl, rfl, rfl, rfl, rfl⟩) (by kernel_rfl) ?_
      refine (put_calls (e := o.e) bi k6.b1 (by omega)).mono ?_
      rintro r h8 ⟨rfl, k8⟩
      refine awpL_restE (by simp [go_sem]; exact ⟨rfl, rfl⟩) ?_; try dsimp only [thn, inBlk]
      (repeat' first
        | refine AWP.seq ?_
        | refine AWP.block ?_
        | (refine AWP.skip ?_; try dsimp only [thn, inBlk])
        | (refine AWP.exit ?_; try simp only [thn, inBlk, if_true, reduceIte, Nat.reduceEqDiff])
        | (refine AWP.ret ?_; try dsimp only [thn, inBlk])
        | (refine AWP.condT ?_ ?_; (focus (simp [go_sem, w1]; done)))
        | (refine AWP.condF ?_ ?_; (focus (simp [go_sem, w1]; done)))
        | (apply AWP.rE; (focus (simp [go_sem, w1]; exact ⟨rfl, rfl⟩)); try dsimp only [thn, inBlk])
        | fail)
      exact ⟨s1.length - (j + 1), by omega, j + 1, _, by omega, rfl, by simp [go_sem], bi.put (by omega), by rw [get_putR hnm]; exact hget, k8.d1⟩
  have hjm' : ¬ (j : Int) < s1.length := by omega
  have cB := kB.b1.obj
  (repeat' first
    | refine AWP.seq ?_
    | refine AWP.block ?_
    | (refine AWP.skip ?_; try dsimp only [thn, inBlk])
    | (refine AWP.exit ?_; try simp only [thn, inBlk, if_true, reduceIte, Nat.reduceEqDiff])
    | (refine AWP.ret ?_; try dsimp only [thn, inBlk])
    | (refine AWP.condT ?_ ?_; (focus (simp [go_sem, hjm']; done)))
    | (refine AWP.condF ?_ ?_; (focus (simp [go_sem, hjm']; done)))
    | (apply AWP.rE; (focus (simp [go_sem, hjm']; exact ⟨rfl, rfl⟩)); try dsimp only [thn, inBlk])
    | fail)
  refine AWP.callE (by simp [go_sem, cB]; exact ⟨rfl, rfl, rfl, rfl, rfl⟩) (by kernel_rfl) ?_
  refine (get_calls (n := e.nm) bi kB (by omega)).mono ?_
  rintro r h6 ⟨rfl, k6⟩
  have bi9 := bi.drop e.nm
  have d1 : (get L e.nm).isSome = true := by rw [hget]; rfl
  have d2 : (get (dropT L e.nm) e.nm).isSome = false := by rw [get_self]; rfl
  cases ho : e.off
  · have e2 : getR L e.nm = (e, true) := by simp [getR, hget, ho]
    rw [e2]
    have k7 := k6.push (.row (en e) 34 20 true false)
    have c7 := k7.b2.obj
    have c7' := k7.obj
    have q1 := en_eq he (by omega)
    have mx : ¬ (16 : Int) < L.length := by have := bi.mx; omega
    have mx2 : (L.length : Int) ≤ 16 := by have := bi.mx; omega
    refine awpL_restE (by simp [go_sem, ↓allocE]; exact ⟨rfl, rfl⟩) ?_; try dsimp only [thn, inBlk]
    (repeat' first
      | refine AWP.seq ?_
      | refine AWP.block ?_
      | (refine AWP.skip ?_; try dsimp only [thn, inBlk])
      | (refine AWP.exit ?_; try simp only [thn, inBlk, if_true, reduceIte, Nat.reduceEqDiff])
      | (refine AWP.ret ?_; try dsimp only [thn, inBlk])
      | (refine AWP.condT ?_ ?_; (focus (simp [go_sem]; done)))
      | (refine AWP.condF ?_ ?_; (focus (simp [go_sem]; done)))
      | (apply AWP.rE; (focus (simp [go_sem]; exact ⟨rfl, rfl⟩)); try dsimp only [thn, inBlk])
      | fail)
    refine AWP.callE (by simp [go_sem, c7, c7', ho, q1]; exact ⟨rfl, rfl, rfl, rfl, rfl⟩) (by kernel_rfl) ?_
    refine (list_calls bi k7.b1).mono ?_
    rintro r h8 ⟨a8, c8, rfl, k8⟩
    rw [listL_len]
    have c9 := k8.b3.obj
    refine awpL_toCall (by simp [go_sem, c9, mx, mx2]; exact ⟨rfl, rfl, rfl, rfl, rfl⟩) (by kernel_rfl) ?_
    refine (drop_calls (n := e.nm) bi k8.b1 (by omega)).mono ?_
    rintro r h10 ⟨rfl, k10⟩
    have c11 := k10.b3.obj
    rw [d1]
    refine awpL_toCall (by simp [go_sem, c11]; exact ⟨rfl, rfl, rfl, rfl, rfl⟩) (by kernel_rfl) ?_
    refine (drop_calls (n := e.nm) bi9 k10 (by omega)).mono ?_
    rintro r h12 ⟨rfl, k12⟩
    rw [d2]
    refine awpL_restE (by simp [go_sem]; exact ⟨rfl, rfl⟩) ?_; try dsimp only [thn, inBlk]
    (repeat' first
      | refine AWP.seq ?_
      | refine AWP.block ?_
      | (refine AWP.skip ?_; try dsimp only [thn, inBlk])
      | (refine AWP.exit ?_; try simp only [thn, inBlk, if_true, reduceIte, Nat.reduceEqDiff])
      | (refine AWP.ret ?_; try dsimp only [thn, inBlk])
      | (refine AWP.condT ?_ ?_; (focus (simp [go_sem]; done)))
      | (refine AWP.condF ?_ ?_; (focus (simp [go_sem]; done)))
      | (apply AWP.rE; (focus (simp [go_sem]; exact ⟨rfl, rfl⟩)); try dsimp only [thn, inBlk])
      | fail)
    simp [bodyQ, thn, inBlk, resA, resV, go_sem]
  · have e2 : getR L e.nm = (zE, false) := by simp [getR, hget, ho]
    rw [e2]
    have k7 := k6.push (.row (en zE) 34 20 true false)
    have c7 := k7.b2.obj
    have c7' := k7.obj
    have q1 := en_eq he (by omega)
    have mx : ¬ (16 : Int) < L.length := by have := bi.mx; omega
    have mx2 : (L.length : Int) ≤ 16 := by have := bi.mx; omega
    refine awpL_restE (by simp [go_sem, ↓allocE]; exact ⟨rfl, rfl⟩) ?_; try dsimp only [thn, inBlk]
    (repeat' first
      | refine AWP.seq ?_
      | refine AWP.block ?_
      | (refine AWP.skip ?_; try dsimp only [thn, inBlk])
      | (refine AWP.exit ?_; try simp only [thn, inBlk, if_true, reduceIte, Nat.reduceEqDiff])
      | (refine AWP.ret ?_; try dsimp only [thn, inBlk])
      | (refine AWP.condT ?_ ?_; (focus (simp [go_sem]; done)))
      | (refine AWP.condF ?_ ?_; (focus (simp [go_sem]; done)))
      | (apply AWP.rE; (focus (simp [go_sem]; exact ⟨rfl, rfl⟩)); try dsimp only [thn, inBlk])
      | fail)
    refine AWP.callE (by simp [go_sem, c7, c7', ho, q1]; exact ⟨rfl, rfl, rfl, rfl, rfl⟩) (by kernel_rfl) ?_
    refine (list_calls bi k7.b1).mono ?_
    rintro r h8 ⟨a8, c8, rfl, k8⟩
    rw [listL_len]
    have c9 := k8.b3.obj
    refine awpL_toCall (by simp [go_sem, c9, mx, mx2]; exact ⟨rfl, rfl, rfl, rfl, rfl⟩) (by kernel_rfl) ?_
    refine (drop_calls (n := e.nm) bi k8.b1 (by omega)).mono ?_
    rintro r h10 ⟨rfl, k10⟩
    have c11 := k10.b3.obj
    rw [d1]
    refine awpL_toCall (by simp [go_sem, c11]; exact ⟨rfl, rfl, rfl, rfl, rfl⟩) (by kernel_rfl) ?_
    refine (drop_calls (n := e.nm) bi9 k10 (by omega)).mono ?_
    rintro r h12 ⟨rfl, k12⟩
    rw [d2]
    refine awpL_restE (by simp [go_sem]; exact ⟨rfl, rfl⟩) ?_; try dsimp only [thn, inBlk]
    (repeat' first
      | refine AWP.seq ?_
      | refine AWP.block ?_
      | (refine AWP.skip ?_; try dsimp only [thn, inBlk])
      | (refine AWP.exit ?_; try simp only [thn, inBlk, if_true, reduceIte, Nat.reduceEqDiff])
      | (refine AWP.ret ?_; try dsimp only [thn, inBlk])
      | (refine AWP.condT ?_ ?_; (focus (simp [go_sem]; done)))
      | (refine AWP.condF ?_ ?_; (focus (simp [go_sem]; done)))
      | (apply AWP.rE; (focus (simp [go_sem]; exact ⟨rfl, rfl⟩)); try dsimp only [thn, inBlk])
      | fail)
    simp [bodyQ, thn, inBlk, resA, resV, go_sem]
end L09
