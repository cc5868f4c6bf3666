import Derived.Test.YtjjocbijmhmdkaaL18p
open Go Ab Go.Proofs
namespace L18
set_option autoImplicit false
set_option linter.unusedSimpArgs false
set_option linter.unusedVariables false
attribute [local irreducible] mcells
abbrev arow (S : Nat → Int) : AObj := .row (ar S) 27 4 true false

abbrev Z27 : AObj := .row [.int .i64 0, .int .i64 0, .int .i64 0, .int .i64 0] 27 4 true false
set_option maxHeartbeats 8000000 in
theorem room_calls {h : AHeap} {v : Value} {l : List Op} (hb : h.base = h.next) (hv : BR preO 6 h v l) (hl : l.length ≤ 9223372036854775807) (hwf : ∀ o ∈ l, o.1.Wf) :
    ACalls Try.prog 3 #[v] h fun r _ => r = .bool true := by
  refine Own.of_wf fun k0 => ?_
  obtain ⟨va, vc, rfl⟩ := hv.val
  refine ACalls.of_awp (args := [.slice va l.length vc]) (n := 110) Try.func3 rfl rfl (by show 1 ≤ 110; omega) ?_
  (repeat' first
    | refine AWP.seq ?_
    | refine AWP.block ?_
    | (refine AWP.skip ?_; try dsimp only [thn, inBlk])
    | (refine AWP.exit ?_; try simp only [thn, inBlk, if_true, reduceIte, Nat.reduceEqDiff])
    | (refine AWP.ret ?_; try dsimp only [thn, inBlk])
    | (refine AWP.condT ?_ ?_; (focus (simp [go_sem]; done)))
    | (refine AWP.condF ?_ ?_; (focus (simp [go_sem]; done)))
    | (apply AWP.rE; (focus (simp [go_sem]; exact ⟨rfl, rfl⟩)); try dsimp only [thn, inBlk])
    | (apply AWP.dE hmix [.n 0 [12], .n 1 [78], .n 2 [4, 79], .n 3 [80], .n 4 [12], .n 5 [82], .n 6 [83], .n 7 [81, 84], .n 8 [4, 79], .w 9 [86, 85] []]; (focus kernel_rfl); (focus (simp [go_sem]; exact ⟨rfl, rfl⟩)); try dsimp only [thn, inBlk])
    | (apply AWP.dE hmix [.n 0 [13], .n 1 [4, 91], .n 2 [92], .n 3 [13], .n 4 [5, 94], .n 5 [95], .n 6 [93, 96], .n 7 [97], .n 8 [98], .n 9 [13, 99], .n 10 [5, 100, 99], .n 11 [101, 99], .n 12 [13, 99], .n 13 [4, 103, 99], .n 14 [104, 99], .n 15 [102, 105, 99], .n 16 [99, 106]]; (focus kernel_rfl); (focus (simp [go_sem]; exact ⟨rfl, rfl⟩)); try dsimp only [thn, inBlk])
    | fail)
  refine AWP.callE (by simp [go_sem]; exact ⟨rfl, rfl, rfl, rfl, rfl⟩) (by kernel_rfl) ?_
  refine (speaks_calls k0).mono ?_
  rintro r h1 ⟨rfl, k1⟩
  refine awpL_restE (by simp [go_sem]; exact ⟨rfl, rfl⟩) ?_; try dsimp only [thn, inBlk]
  (repeat' first
    | refine AWP.seq ?_
    | refine AWP.block ?_
    | (refine AWP.skip ?_; try dsimp only [thn, inBlk])
    | (refine AWP.exit ?_; try simp only [thn, inBlk, if_true, reduceIte, Nat.reduceEqDiff])
    | (refine AWP.ret ?_; try dsimp only [thn, inBlk])
    | (refine AWP.condT ?_ ?_; (focus (simp [go_sem]; done)))
    | (refine AWP.condF ?_ ?_; (focus (simp [go_sem]; done)))
    | (apply AWP.rE; (focus (simp [go_sem]; exact ⟨rfl, rfl⟩)); try dsimp only [thn, inBlk])
    | (apply AWP.dE hmix [.n 0 [12], .n 1 [78], .n 2 [4, 79], .n 3 [80], .n 4 [12], .n 5 [82], .n 6 [83], .n 7 [81, 84], .n 8 [4, 79], .w 9 [86, 85] []]; (focus kernel_rfl); (focus (simp [go_sem]; exact ⟨rfl, rfl⟩)); try dsimp only [thn, inBlk])
    | (apply AWP.dE hmix [.n 0 [13], .n 1 [4, 91], .n 2 [92], .n 3 [13], .n 4 [5, 94], .n 5 [95], .n 6 [93, 96], .n 7 [97], .n 8 [98], .n 9 [13, 99], .n 10 [5, 100, 99], .n 11 [101, 99], .n 12 [13, 99], .n 13 [4, 103, 99], .n 14 [104, 99], .n 15 [102, 105, 99], .n 16 [99, 106]]; (focus kernel_rfl); (focus (simp [go_sem]; exact ⟨rfl, rfl⟩)); try dsimp only [thn, inBlk])
    | fail)
  refine AWP.callE (by simp [go_sem]; exact ⟨rfl, rfl, rfl, rfl, rfl⟩) (by kernel_rfl) ?_
  refine (great_calls hb hv k1 hl).mono ?_
  rintro r h2 ⟨rfl, k2⟩
  refine awpL_restE (by simp [go_sem]; exact ⟨rfl, rfl⟩) ?_; try dsimp only [thn, inBlk]
  cases hbig : big l
  rotate_left
  · (repeat' first
      | refine AWP.seq ?_
      | refine AWP.block ?_
      | (refine AWP.skip ?_; try dsimp only [thn, inBlk])
      | (refine AWP.exit ?_; try simp only [thn, inBlk, if_true, reduceIte, Nat.reduceEqDiff])
      | (refine AWP.ret ?_; try dsimp only [thn, inBlk])
      | (refine AWP.condT ?_ ?_; (focus (simp [go_sem]; done)))
      | (refine AWP.condF ?_ ?_; (focus (simp [go_sem]; done)))
      | (apply AWP.rE; (focus (simp [go_sem]; exact ⟨rfl, rfl⟩)); try dsimp only [thn, inBlk])
      | (apply AWP.dE hmix [.n 0 [12], .n 1 [78], .n 2 [4, 79], .n 3 [80], .n 4 [12], .n 5 [82], .n 6 [83], .n 7 [81, 84], .n 8 [4, 79], .w 9 [86, 85] []]; (focus kernel_rfl); (focus (simp [go_sem]; exact ⟨rfl, rfl⟩)); try dsimp only [thn, inBlk])
      | (apply AWP.dE hmix [.n 0 [13], .n 1 [4, 91], .n 2 [92], .n 3 [13], .n 4 [5, 94], .n 5 [95], .n 6 [93, 96], .n 7 [97], .n 8 [98], .n 9 [13, 99], .n 10 [5, 100, 99], .n 11 [101, 99], .n 12 [13, 99], .n 13 [4, 103, 99], .n 14 [104, 99], .n 15 [102, 105, 99], .n 16 [99, 106]]; (focus kernel_rfl); (focus (simp [go_sem]; exact ⟨rfl, rfl⟩)); try dsimp only [thn, inBlk])
      | fail)
    simp [bodyQ, thn, inBlk, resA, resV, go_sem]
  have h80 : l.length ≤ 80 := by
    simp [big] at hbig; omega
  (repeat' first
    | refine AWP.seq ?_
    | refine AWP.block ?_
    | (refine AWP.skip ?_; try dsimp only [thn, inBlk])
    | (refine AWP.exit ?_; try simp only [thn, inBlk, if_true, reduceIte, Nat.reduceEqDiff])
    | (refine AWP.ret ?_; try dsimp only [thn, inBlk])
    | (refine AWP.condT ?_ ?_; (focus (simp [go_sem]; done)))
    | (refine AWP.condF ?_ ?_; (focus (simp [go_sem]; done)))
    | (apply AWP.rE; (focus (simp [go_sem]; exact ⟨rfl, rfl⟩)); try dsimp only [thn, inBlk])
    | (apply AWP.dE hmix [.n 0 [12], .n 1 [78], .n 2 [4, 79], .n 3 [80], .n 4 [12], .n 5 [82], .n 6 [83], .n 7 [81, 84], .n 8 [4, 79], .w 9 [86, 85] []]; (focus kernel_rfl); (focus (simp [go_sem]; exact ⟨rfl, rfl⟩)); try dsimp only [thn, inBlk])
    | (apply AWP.dE hmix [.n 0 [13], .n 1 [4, 91], .n 2 [92], .n 3 [13], .n 4 [5, 94], .n 5 [95], .n 6 [93, 96], .n 7 [97], .n 8 [98], .n 9 [13, 99], .n 10 [5, 100, 99], .n 11 [101, 99], .n 12 [13, 99], .n 13 [4, 103, 99], .n 14 [104, 99], .n 15 [102, 105, 99], .n 16 [99, 106]]; (focus kernel_rfl); (focus (simp [go_sem]; exact ⟨rfl, rfl⟩)); try dsimp only [thn, inBlk])
    | fail)
  refine AWP.callE (by simp [go_sem]; exact ⟨rfl, rfl, rfl, rfl, rfl⟩) (by kernel_rfl) ?_
  refine (new_calls k2).mono ?_
  rintro r h3 ⟨b, rfl, k3⟩
  have k4 : Own h.asOld _ (cell (h3.next + 1) Z27 :: cell h3.next Z27 :: [mux b (zo 4) (zi 4)]) := (k3.push Z27).push Z27
  have k5 := k4.b1.set Z27
  have c5 := k5.b1.obj
  have k6 := k5.b1.set Z27
  refine awpL_restE (by simp [go_sem, c5]; exact ⟨rfl, rfl⟩) ?_; try dsimp only [thn, inBlk]
  (repeat' first
    | refine AWP.seq ?_
    | refine AWP.block ?_
    | (refine AWP.skip ?_; try dsimp only [thn, inBlk])
    | (refine AWP.exit ?_; try simp only [thn, inBlk, if_true, reduceIte, Nat.reduceEqDiff])
    | (refine AWP.ret ?_; try dsimp only [thn, inBlk])
    | (refine AWP.condT ?_ ?_; (focus (simp [go_sem]; done)))
    | (refine AWP.condF ?_ ?_; (focus (simp [go_sem]; done)))
    | (apply AWP.rE; (focus (simp [go_sem]; exact ⟨rfl, rfl⟩)); try dsimp only [thn, inBlk])
    | (apply AWP.dE hmix [.n 0 [12], .n 1 [78], .n 2 [4, 79], .n 3 [80], .n 4 [12], .n 5 [82], .n 6 [83], .n 7 [81, 84], .n 8 [4, 79], .w 9 [86, 85] []]; (focus kernel_rfl); (focus (simp [go_sem]; exact ⟨rfl, rfl⟩)); try dsimp only [thn, inBlk])
    | (apply AWP.dE hmix [.n 0 [13], .n 1 [4, 91], .n 2 [92], .n 3 [13], .n 4 [5, 94], .n 5 [95], .n 6 [93, 96], .n 7 [97], .n 8 [98], .n 9 [13, 99], .n 10 [5, 100, 99], .n 11 [101, 99], .n 12 [13, 99], .n 13 [4, 103, 99], .n 14 [104, 99], .n 15 [102, 105, 99], .n 16 [99, 106]]; (focus kernel_rfl); (focus (simp [go_sem]; exact ⟨rfl, rfl⟩)); try dsimp only [thn, inBlk])
    | fail)
  refine AWP.loopR [3, 4, 5, 23, 24, 25] (fun m s h' => ∃ (j : Nat) (S B : Nat → Int) (o : List Hf) (i : List Ot), j ≤ l.length ∧ m = l.length - j ∧ s = ⟨110, [(3, ptr b), (4, ptr h3.next), (5, ptr (h3.next + 1)), (23, .slice va l.length vc), (24, .int .i64 l.length), (25, .int .i64 (j : Nat))]⟩ ∧
    MI o i ∧ (∀ c, c < 4 → (hg o c).credit = 1024 - S c + B c ∧ 0 ≤ B c ∧ B c ≤ j * 1024) ∧ Own h.asOld h' [mux b o i, cell h3.next (arow S), cell (h3.next + 1) (arow B)]) ?_ ?_
  · have ez : Z27 = arow fun _ => 0 := rfl
    rw [ez] at k6
    refine ⟨_, 0, fun _ => 0, fun _ => 0, zo 4, zi 4, by omega, rfl, by simp [go_sem], MI.new, fun c hc => ?_, by (refine Own.sbl ?_ (k6); repeat' first | exact Sbl.nil _ | with_reducible exact Sbl.rfl _ | (apply Sbl.cons) | (apply Sbl.skip) | with_reducible exact Fnd.head _ _ | (apply Fnd.tail))⟩
    match c, hc with
    | 0, _ => exact ⟨rfl, Int.le_refl 0, by simp⟩
    | 1, _ => exact ⟨rfl, Int.le_refl 0, by simp⟩
    | 2, _ => exact ⟨rfl, Int.le_refl 0, by simp⟩
    | 3, _ => exact ⟨rfl, Int.le_refl 0, by simp⟩
  rintro m s h4 ⟨j, S, B, o, i, hj, rfl, rfl, mi, inv, kt⟩
  by_cases hj2 : j < l.length
  rotate_left
  · have hj3 : ¬ (j : Int) < l.length := by omega
    (repeat' first
      | refine AWP.seq ?_
      | refine AWP.block ?_
      | (refine AWP.skip ?_; try dsimp only [thn, inBlk])
      | (refine AWP.exit ?_; try simp only [thn, inBlk, if_true, reduceIte, Nat.reduceEqDiff])
      | (refine AWP.ret ?_; try dsimp only [thn, inBlk])
      | (refine AWP.condT ?_ ?_; (focus (simp [go_sem, hj3]; done)))
      | (refine AWP.condF ?_ ?_; (focus (simp [go_sem, hj3]; done)))
      | (apply AWP.rE; (focus (simp [go_sem, hj3]; exact ⟨rfl, rfl⟩)); try dsimp only [thn, inBlk])
      | (apply AWP.dE hmix [.n 0 [12], .n 1 [78], .n 2 [4, 79], .n 3 [80], .n 4 [12], .n 5 [82], .n 6 [83], .n 7 [81, 84], .n 8 [4, 79], .w 9 [86, 85] []]; (focus kernel_rfl); (focus (simp [go_sem, hj3]; exact ⟨rfl, rfl⟩)); try dsimp only [thn, inBlk])
      | (apply AWP.dE hmix [.n 0 [13], .n 1 [4, 91], .n 2 [92], .n 3 [13], .n 4 [5, 94], .n 5 [95], .n 6 [93, 96], .n 7 [97], .n 8 [98], .n 9 [13, 99], .n 10 [5, 100, 99], .n 11 [101, 99], .n 12 [13, 99], .n 13 [4, 103, 99], .n 14 [104, 99], .n 15 [102, 105, 99], .n 16 [99, 106]]; (focus kernel_rfl); (focus (simp [go_sem, hj3]; exact ⟨rfl, rfl⟩)); try dsimp only [thn, inBlk])
      | fail)
    simp [bodyQ, thn, inBlk, resA, resV, go_sem]
  have hj3 : (j : Int) < l.length := by omega
  obtain ⟨j1, hj1⟩ : ∃ j1, j1 = j + 1 := ⟨_, rfl⟩
  have wj : IntKind.i64.wrap ((j : Int) + 1) = (j1 : Int) := by rw [wI64 (by omega) (by omega)]; omega
  obtain ⟨oi, oo, oc, oe, osz, oti, oro, oa, ocap, p1, p2, p3, p4, p5⟩ := op_at (hv.of_old hb kt) hj2 (kd := .i64)
  obtain ⟨q, hq⟩ : ∃ q, q = l[j] := ⟨_, rfl⟩
  rw [← hq] at p4 p5
  have kp := kt.push (.row (orow q oa ocap) 32 6 true false)
  have cp := kp.obj
  have wc := msk_w q.1.chan (m := 3) (by omega)
  have wk := msk_w q.1.kind (m := 1) (by omega)
  have ws := msk_w q.1.size (m := 1023) (by omega)
  obtain ⟨c, hc⟩ : ∃ c, c = msk q.1.chan 3 := ⟨_, rfl⟩
  have hc4 : c < 4 := by have := msk_le q.1.chan 3; omega
  obtain ⟨kd, hkd⟩ : ∃ kd, kd = msk q.1.kind 1 := ⟨_, rfl⟩
  obtain ⟨n, hn⟩ : ∃ n, n = msk q.1.size 1023 := ⟨_, rfl⟩
  have hn2 : n ≤ 1023 := by rw [hn]; exact msk_le _ _
  rw [← hc] at wc
  rw [← hkd] at wk
  rw [← hn] at ws
  have hqb : q.2.length ≤ 2000 := by
    simp [big] at hbig
    exact hbig.2 q.1 q.2 (by rw [hq]; exact List.getElem_mem hj2)
  have hci : (c : Int) < 4 := by omega
  (repeat' first
    | refine AWP.seq ?_
    | refine AWP.block ?_
    | (refine AWP.skip ?_; try dsimp only [thn, inBlk])
    | (refine AWP.exit ?_; try simp only [thn, inBlk, if_true, reduceIte, Nat.reduceEqDiff])
    | (refine AWP.ret ?_; try dsimp only [thn, inBlk])
    | (refine AWP.condT ?_ ?_; (focus (simp [go_sem, hj3, p1, p2, p3, p4, cp, wc, wk]; done)))
    | (refine AWP.condF ?_ ?_; (focus (simp [go_sem, hj3, p1, p2, p3, p4, cp, wc, wk]; done)))
    | (apply AWP.rE; (focus (simp [go_sem, hj3, p1, p2, p3, p4, cp, wc, wk]; exact ⟨rfl, rfl⟩)); try dsimp only [thn, inBlk])
    | (apply AWP.dE hmix [.n 0 [12], .n 1 [78], .n 2 [4, 79], .n 3 [80], .n 4 [12], .n 5 [82], .n 6 [83], .n 7 [81, 84], .n 8 [4, 79], .w 9 [86, 85] []]; (focus kernel_rfl); (focus (simp [go_sem, hj3, p1, p2, p3, p4, cp, wc, wk]; exact ⟨rfl, rfl⟩)); try dsimp only [thn, inBlk])
    | (apply AWP.dE hmix [.n 0 [13], .n 1 [4, 91], .n 2 [92], .n 3 [13], .n 4 [5, 94], .n 5 [95], .n 6 [93, 96], .n 7 [97], .n 8 [98], .n 9 [13, 99], .n 10 [5, 100, 99], .n 11 [101, 99], .n 12 [13, 99], .n 13 [4, 103, 99], .n 14 [104, 99], .n 15 [102, 105, 99], .n 16 [99, 106]]; (focus kernel_rfl); (focus (simp [go_sem, hj3, p1, p2, p3, p4, cp, wc, wk]; exact ⟨rfl, rfl⟩)); try dsimp only [thn, inBlk])
    | fail)
  refine AWP.cutT [3, 4, 5, 23, 24, 25] (fun s h' => ∃ (S B : Nat → Int) (o : List Hf) (i : List Ot), s = ⟨110, [(3, ptr b), (4, ptr h3.next), (5, ptr (h3.next + 1)), (23, .slice va l.length vc), (24, .int .i64 l.length), (25, .int .i64 (j : Nat))]⟩ ∧
    MI o i ∧ (∀ c, c < 4 → (hg o c).credit = 1024 - S c + B c ∧ 0 ≤ B c ∧ B c ≤ j1 * 1024) ∧ Own h.asOld h' [mux b o i, cell h3.next (arow S), cell (h3.next + 1) (arow B)]) ?_ ?_
  · by_cases hk : kd = 0
    · subst hk
      (repeat' first
        | refine AWP.seq ?_
        | refine AWP.block ?_
        | (refine AWP.skip ?_; try dsimp only [thn, inBlk])
        | (refine AWP.exit ?_; try simp only [thn, inBlk, if_true, reduceIte, Nat.reduceEqDiff])
        | (refine AWP.ret ?_; try dsimp only [thn, inBlk])
        | (refine AWP.condT ?_ ?_; (focus (simp [go_sem]; done)))
        | (refine AWP.condF ?_ ?_; (focus (simp [go_sem]; done)))
        | (apply AWP.rE; (focus (simp [go_sem]; exact ⟨rfl, rfl⟩)); try dsimp only [thn, inBlk])
        | (apply AWP.dE hmix [.n 0 [12], .n 1 [78], .n 2 [4, 79], .n 3 [80], .n 4 [12], .n 5 [82], .n 6 [83], .n 7 [81, 84], .n 8 [4, 79], .w 9 [86, 85] []]; (focus kernel_rfl); (focus (simp [go_sem]; exact ⟨rfl, rfl⟩)); try dsimp only [thn, inBlk])
        | (apply AWP.dE hmix [.n 0 [13], .n 1 [4, 91], .n 2 [92], .n 3 [13], .n 4 [5, 94], .n 5 [95], .n 6 [93, 96], .n 7 [97], .n 8 [98], .n 9 [13, 99], .n 10 [5, 100, 99], .n 11 [101, 99], .n 12 [13, 99], .n 13 [4, 103, 99], .n 14 [104, 99], .n 15 [102, 105, 99], .n 16 [99, 106]]; (focus kernel_rfl); (focus (simp [go_sem]; exact ⟨rfl, rfl⟩)); try dsimp only [thn, inBlk])
        | fail)
      refine AWP.callE (by simp [go_sem, cp]; exact ⟨rfl, rfl, rfl, rfl, rfl⟩) (by kernel_rfl) ?_
      refine (size_calls kp q).mono ?_
      rintro r h5 ⟨rfl, k5⟩
      refine awpL_toCall (by simp [go_sem]; exact ⟨rfl, rfl, rfl, rfl, rfl⟩) (by kernel_rfl) ?_
      have hsz := szO_le q
      refine (text_calls k5 (n := szO q) (fr := j) (by omega) (by omega)).mono ?_
      rintro r h6 ⟨ta, tc, rfl, k6⟩
      refine awpL_toCall (by simp [go_sem]; exact ⟨rfl, rfl, rfl, rfl, rfl⟩) (by kernel_rfl) ?_
      refine (write_calls (d := txt (szO q) j) k6.b2 mi c (fun hh kk => kk.ob_bytes) (by rw [txt_len]; omega)).mono ?_
      rintro r h7 ⟨rfl, k7⟩
      refine awpL_restE (by simp [go_sem]; exact ⟨rfl, rfl⟩) ?_; try dsimp only [thn, inBlk]
      refine ⟨S, B, _, _, by simp [go_sem], mi.write c (txt (szO q) j), fun d hd => ?_, by (refine Own.sbl ?_ (k7); repeat' first | exact Sbl.nil _ | with_reducible exact Sbl.rfl _ | (apply Sbl.cons) | (apply Sbl.skip) | with_reducible exact Fnd.head _ _ | (apply Fnd.tail))⟩
      rw [write_credit _ _ _ _ mi.ol]
      have := inv d hd
      omega
    · have hk1 : kd = 1 := by have := msk_le q.1.kind 1; omega
      subst hk1
      obtain ⟨m, hm⟩ : ∃ m, m = n / 256 := ⟨_, rfl⟩
      have w2 : IntKind.u8.wrap (c : Int) = ((UInt8.ofNat c).toNat : Nat) := by rw [wU8 (by omega) (by omega)]; simp [UInt8.toNat_ofNat]; omega
      have w0 : IntKind.i64.wrap (m : Int) = m := wI64 (by omega) (by omega)
      have w3 : IntKind.u8.wrap (m : Int) = ((UInt8.ofNat m).toNat : Nat) := by rw [wU8 (by omega) (by omega)]; simp [UInt8.toNat_ofNat]; omega
      have w4 : IntKind.u8.wrap (n : Int) = ((UInt8.ofNat (n % 256)).toNat : Nat) := by simp [IntKind.wrap, IntKind.bits, IntKind.signed, UInt8.toNat_ofNat]
      have w5 : (n : Int).fdiv 256 = m := by rw [hm]; rw [Int.fdiv_eq_ediv_of_nonneg _ (by omega)]; rfl
      have hct : ctl c n = (4, [1, UInt8.ofNat c, UInt8.ofNat m, UInt8.ofNat (n % 256)]) := by rw [ctl, hm]
      obtain ⟨x1, hx1⟩ : ∃ x, x = UInt8.ofNat c := ⟨_, rfl⟩
      obtain ⟨x2, hx2⟩ : ∃ x, x = UInt8.ofNat m := ⟨_, rfl⟩
      obtain ⟨x3, hx3⟩ : ∃ x, x = UInt8.ofNat (n % 256) := ⟨_, rfl⟩
      rw [← hx1] at w2
      rw [← hx2] at w3
      rw [← hx3] at w4
      rw [← hx1, ← hx2, ← hx3] at hct
      have kq := kp.push (.row [.int .u8 1, .int .u8 x1.toNat, .int .u8 x2.toNat, .int .u8 x3.toNat] 5 1 true false)
      (repeat' first
        | refine AWP.seq ?_
        | refine AWP.block ?_
        | (refine AWP.skip ?_; try dsimp only [thn, inBlk])
        | (refine AWP.exit ?_; try simp only [thn, inBlk, if_true, reduceIte, Nat.reduceEqDiff])
        | (refine AWP.ret ?_; try dsimp only [thn, inBlk])
        | (refine AWP.condT ?_ ?_; (focus (simp [go_sem, cp, ws]; done)))
        | (refine AWP.condF ?_ ?_; (focus (simp [go_sem, cp, ws]; done)))
        | (apply AWP.rE; (focus (simp [go_sem, cp, ws]; exact ⟨rfl, rfl⟩)); try dsimp only [thn, inBlk])
        | (apply AWP.dE hmix [.n 0 [12], .n 1 [78], .n 2 [4, 79], .n 3 [80], .n 4 [12], .n 5 [82], .n 6 [83], .n 7 [81, 84], .n 8 [4, 79], .w 9 [86, 85] []]; (focus kernel_rfl); (focus (simp [go_sem, cp, ws]; exact ⟨rfl, rfl⟩)); try dsimp only [thn, inBlk])
        | (apply AWP.dE hmix [.n 0 [13], .n 1 [4, 91], .n 2 [92], .n 3 [13], .n 4 [5, 94], .n 5 [95], .n 6 [93, 96], .n 7 [97], .n 8 [98], .n 9 [13, 99], .n 10 [5, 100, 99], .n 11 [101, 99], .n 12 [13, 99], .n 13 [4, 103, 99], .n 14 [104, 99], .n 15 [102, 105, 99], .n 16 [99, 106]]; (focus kernel_rfl); (focus (simp [go_sem, cp, ws]; exact ⟨rfl, rfl⟩)); try dsimp only [thn, inBlk])
        | fail)
      refine AWP.callE (by simp [go_sem, w0, w2, w3, w4, w5]; exact ⟨rfl, rfl, rfl, rfl, rfl⟩) (by kernel_rfl) ?_
      have T := take_calls (ctl c n) kq.b2 mi (fun hh kk => by rw [hct]; exact row_bytes kk rfl) (by rw [hct]; simp)
      have mi2 := mi.take (ctl c n)
      rw [take_ctl hc4 (by omega)] at T mi2
      rw [hct] at T
      refine T.mono ?_
      rintro r h7 ⟨rfl, k7⟩
      refine awpL_restE (by simp [go_sem]; exact ⟨rfl, rfl⟩) ?_; try dsimp only [thn, inBlk]
      by_cases hcr : 1024 - (hg o c).credit < n
      · rw [if_pos hcr] at k7 mi2 ⊢
        (repeat' first
          | refine AWP.seq ?_
          | refine AWP.block ?_
          | (refine AWP.skip ?_; try dsimp only [thn, inBlk])
          | (refine AWP.exit ?_; try simp only [thn, inBlk, if_true, reduceIte, Nat.reduceEqDiff])
          | (refine AWP.ret ?_; try dsimp only [thn, inBlk])
          | (refine AWP.condT ?_ ?_; (focus (simp [go_sem]; done)))
          | (refine AWP.condF ?_ ?_; (focus (simp [go_sem]; done)))
          | (apply AWP.rE; (focus (simp [go_sem]; exact ⟨rfl, rfl⟩)); try dsimp only [thn, inBlk])
          | (apply AWP.dE hmix [.n 0 [12], .n 1 [78], .n 2 [4, 79], .n 3 [80], .n 4 [12], .n 5 [82], .n 6 [83], .n 7 [81, 84], .n 8 [4, 79], .w 9 [86, 85] []]; (focus kernel_rfl); (focus (simp [go_sem]; exact ⟨rfl, rfl⟩)); try dsimp only [thn, inBlk])
          | (apply AWP.dE hmix [.n 0 [13], .n 1 [4, 91], .n 2 [92], .n 3 [13], .n 4 [5, 94], .n 5 [95], .n 6 [93, 96], .n 7 [97], .n 8 [98], .n 9 [13, 99], .n 10 [5, 100, 99], .n 11 [101, 99], .n 12 [13, 99], .n 13 [4, 103, 99], .n 14 [104, 99], .n 15 [102, 105, 99], .n 16 [99, 106]]; (focus kernel_rfl); (focus (simp [go_sem]; exact ⟨rfl, rfl⟩)); try dsimp only [thn, inBlk])
          | fail)
        exact ⟨S, B, o, i, by simp [go_sem], mi, fun d hd => by have := inv d hd; omega, by (refine Own.sbl ?_ (k7); repeat' first | exact Sbl.nil _ | with_reducible exact Sbl.rfl _ | (apply Sbl.cons) | (apply Sbl.skip) | with_reducible exact Fnd.head _ _ | (apply Fnd.tail))⟩
      · rw [if_neg hcr] at k7 mi2 ⊢
        obtain ⟨inv1, inv2, inv3⟩ := inv c hc4
        have wb : IntKind.i64.wrap (B c + (n : Int)) = B c + (n : Int) := wI64 (by omega) (by omega)
        have cB := k7.b4.obj
        have gB := ar_get B hc4
        have sB := ar_set B hc4 (B c + n)
        have lB := ar_len B
        have k8 := k7.b4.set (arow (upd B c (B c + n)))
        have hc1 : c ≤ 3 := by omega
        (repeat' first
          | refine AWP.seq ?_
          | refine AWP.block ?_
          | (refine AWP.skip ?_; try dsimp only [thn, inBlk])
          | (refine AWP.exit ?_; try simp only [thn, inBlk, if_true, reduceIte, Nat.reduceEqDiff])
          | (refine AWP.ret ?_; try dsimp only [thn, inBlk])
          | (refine AWP.condT ?_ ?_; (focus (simp [go_sem, cB, gB, sB, lB, wb, hci, hc4, hc1, ar_g]; done)))
          | (refine AWP.condF ?_ ?_; (focus (simp [go_sem, cB, gB, sB, lB, wb, hci, hc4, hc1, ar_g]; done)))
          | (apply AWP.rE; (focus (simp [go_sem, cB, gB, sB, lB, wb, hci, hc4, hc1, ar_g]; exact ⟨rfl, rfl⟩)); try dsimp only [thn, inBlk])
          | (apply AWP.dE hmix [.n 0 [12], .n 1 [78], .n 2 [4, 79], .n 3 [80], .n 4 [12], .n 5 [82], .n 6 [83], .n 7 [81, 84], .n 8 [4, 79], .w 9 [86, 85] []]; (focus kernel_rfl); (focus (simp [go_sem, cB, gB, sB, lB, wb, hci, hc4, hc1, ar_g]; exact ⟨rfl, rfl⟩)); try dsimp only [thn, inBlk])
          | (apply AWP.dE hmix [.n 0 [13], .n 1 [4, 91], .n 2 [92], .n 3 [13], .n 4 [5, 94], .n 5 [95], .n 6 [93, 96], .n 7 [97], .n 8 [98], .n 9 [13, 99], .n 10 [5, 100, 99], .n 11 [101, 99], .n 12 [13, 99], .n 13 [4, 103, 99], .n 14 [104, 99], .n 15 [102, 105, 99], .n 16 [99, 106]]; (focus kernel_rfl); (focus (simp [go_sem, cB, gB, sB, lB, wb, hci, hc4, hc1, ar_g]; exact ⟨rfl, rfl⟩)); try dsimp only [thn, inBlk])
          | fail)
        refine ⟨S, upd B c (B c + n), _, _, by simp [go_sem], mi2, fun d hd => ?_, by (refine Own.sbl ?_ (k8); repeat' first | exact Sbl.nil _ | with_reducible exact Sbl.rfl _ | (apply Sbl.cons) | (apply Sbl.skip) | with_reducible exact Fnd.head _ _ | (apply Fnd.tail))⟩
        by_cases hdc : d = c
        · subst hdc
          rw [hg_set (by rw [mi.ol]; exact hd), upd_same]
          simp only; omega
        · rw [hg_ne hdc, upd_ne _ _ hdc]
          have := inv d hd; omega
  rintro s h5 ⟨S, B, o, i, rfl, mi, inv, kt⟩
  (repeat' first
    | refine AWP.seq ?_
    | refine AWP.block ?_
    | (refine AWP.skip ?_; try dsimp only [thn, inBlk])
    | (refine AWP.exit ?_; try simp only [thn, inBlk, if_true, reduceIte, Nat.reduceEqDiff])
    | (refine AWP.ret ?_; try dsimp only [thn, inBlk])
    | (refine AWP.condT ?_ ?_; (focus (simp [go_sem]; done)))
    | (refine AWP.condF ?_ ?_; (focus (simp [go_sem]; done)))
    | (apply AWP.rE; (focus (simp [go_sem]; exact ⟨rfl, rfl⟩)); try dsimp only [thn, inBlk])
    | (apply AWP.dE hmix [.n 0 [12], .n 1 [78], .n 2 [4, 79], .n 3 [80], .n 4 [12], .n 5 [82], .n 6 [83], .n 7 [81, 84], .n 8 [4, 79], .w 9 [86, 85] []]; (focus kernel_rfl); (focus (simp [go_sem]; exact ⟨rfl, rfl⟩)); try dsimp only [thn, inBlk])
    | (apply AWP.dE hmix [.n 0 [13], .n 1 [4, 91], .n 2 [92], .n 3 [13], .n 4 [5, 94], .n 5 [95], .n 6 [93, 96], .n 7 [97], .n 8 [98], .n 9 [13, 99], .n 10 [5, 100, 99], .n 11 [101, 99], .n 12 [13, 99], .n 13 [4, 103, 99], .n 14 [104, 99], .n 15 [102, 105, 99], .n 16 [99, 106]]; (focus kernel_rfl); (focus (simp [go_sem]; exact ⟨rfl, rfl⟩)); try dsimp only [thn, inBlk])
    | fail)
  refine AWP.callE (by simp [go_sem]; exact ⟨rfl, rfl, rfl, rfl, rfl⟩) (by kernel_rfl) ?_
  refine (out_calls kt mi).mono ?_
  rintro r h6 ⟨fa, fc, rfl, k6⟩
  refine awpL_restE (by simp [go_sem]; exact ⟨rfl, rfl⟩) ?_; try dsimp only [thn, inBlk]
  have hoc := out_ch mi 4 (by omega)
  have hos := fun (c : Nat) (hc : c < 4) => out_sent mi hc 4 (by omega)
  have hol := (mi.outN 4 (by omega)).2
  have mi2 := mi.out
  change ∀ f ∈ (mout o i).1, _ at hoc
  change ∀ c, c < 4 → sentOf c (mout o i).1 + (hg (mout o i).2.1 c).credit = (hg o c).credit at hos
  change (mout o i).1.length ≤ _ at hol
  generalize hfs : (mout o i).1 = fs at *
  generalize (mout o i).2.1 = o2 at *
  generalize (mout o i).2.2 = i2 at *
  obtain ⟨ac, ha, k7⟩ := frs_iff.1 k6
  (repeat' first
    | refine AWP.seq ?_
    | refine AWP.block ?_
    | (refine AWP.skip ?_; try dsimp only [thn, inBlk])
    | (refine AWP.exit ?_; try simp only [thn, inBlk, if_true, reduceIte, Nat.reduceEqDiff])
    | (refine AWP.ret ?_; try dsimp only [thn, inBlk])
    | (refine AWP.condT ?_ ?_; (focus (simp [go_sem]; done)))
    | (refine AWP.condF ?_ ?_; (focus (simp [go_sem]; done)))
    | (apply AWP.rE; (focus (simp [go_sem]; exact ⟨rfl, rfl⟩)); try dsimp only [thn, inBlk])
    | (apply AWP.dE hmix [.n 0 [12], .n 1 [78], .n 2 [4, 79], .n 3 [80], .n 4 [12], .n 5 [82], .n 6 [83], .n 7 [81, 84], .n 8 [4, 79], .w 9 [86, 85] []]; (focus kernel_rfl); (focus (simp [go_sem]; exact ⟨rfl, rfl⟩)); try dsimp only [thn, inBlk])
    | (apply AWP.dE hmix [.n 0 [13], .n 1 [4, 91], .n 2 [92], .n 3 [13], .n 4 [5, 94], .n 5 [95], .n 6 [93, 96], .n 7 [97], .n 8 [98], .n 9 [13, 99], .n 10 [5, 100, 99], .n 11 [101, 99], .n 12 [13, 99], .n 13 [4, 103, 99], .n 14 [104, 99], .n 15 [102, 105, 99], .n 16 [99, 106]]; (focus kernel_rfl); (focus (simp [go_sem]; exact ⟨rfl, rfl⟩)); try dsimp only [thn, inBlk])
    | fail)
  refine AWP.loopR [3, 4, 5, 23, 24, 25, 69, 70, 71] (fun m s h' => ∃ (e : Nat) (S2 : Nat → Int), e ≤ fs.length ∧ m = fs.length - e ∧ s = ⟨110, [(3, ptr b), (4, ptr h3.next), (5, ptr (h3.next + 1)), (23, .slice va l.length vc), (24, .int .i64 l.length), (25, .int .i64 (j : Nat)), (69, .slice fa fs.length fc), (70, .int .i64 fs.length), (71, .int .i64 (e : Nat))]⟩ ∧
    (∀ c, c < 4 → S2 c = S c + sentOf c (fs.take e)) ∧ Own h.asOld h' [mux b o2 i2, cell h3.next (arow S2), cell (h3.next + 1) (arow B), frc (.slice fa fs.length fc) fs ac]) ?_ ?_
  · exact ⟨_, 0, S, by omega, rfl, by simp [go_sem], fun c hc => by simp [sentOf], by (refine Own.sbl ?_ (k7); repeat' first | exact Sbl.nil _ | with_reducible exact Sbl.rfl _ | (apply Sbl.cons) | (apply Sbl.skip) | with_reducible exact Fnd.head _ _ | (apply Fnd.tail))⟩
  rintro m s h7 ⟨e, S2, he, rfl, rfl, hS2, k8⟩
  by_cases he2 : e < fs.length
  · have he3 : (e : Int) < fs.length := by omega
    obtain ⟨e1, he1⟩ : ∃ e1, e1 = e + 1 := ⟨_, rfl⟩
    have we1 : IntKind.i64.wrap ((e : Int) + 1) = (e1 : Int) := by rw [wI64 (by omega) (by omega)]; omega
    obtain ⟨f, hf⟩ : ∃ f, f = fs[e] := ⟨_, rfl⟩
    obtain ⟨p, hp⟩ : ∃ p, p = ac[e]'(by omega) := ⟨_, rfl⟩
    have hf2 : fs[e]? = some f := by rw [hf, List.getElem?_eq_getElem he2]
    have hp2 : ac[e]? = some p := by rw [hp, List.getElem?_eq_getElem (by omega)]
    obtain ⟨i4, o4, c4, e4, s4, t4, ro4, p4, q4, r4, u4, v4, x4⟩ := fr_at k8.b3 ha hf2 hp2 (kd := .i64)
    have hch := hoc f (by rw [hf]; exact List.getElem_mem he2)
    have htk : fs.take e1 = fs.take e ++ [f] := by rw [he1, List.take_add_one, hf2]; rfl
    have kf := k8.push (.row [.int .i64 f.1, .slice p.1 f.2.length p.2] 30 2 true false)
    have cf := kf.obj
    by_cases h4 : f.1 < 4
    rotate_left
    · have hs4 : ∀ c, c < 4 → sentOf c [f] = 0 := fun c hc => by
        rw [sentOf, if_neg (by omega)]; rfl
      (repeat' first
        | refine AWP.seq ?_
        | refine AWP.block ?_
        | (refine AWP.skip ?_; try dsimp only [thn, inBlk])
        | (refine AWP.exit ?_; try simp only [thn, inBlk, if_true, reduceIte, Nat.reduceEqDiff])
        | (refine AWP.ret ?_; try dsimp only [thn, inBlk])
        | (refine AWP.condT ?_ ?_; (focus (simp [go_sem, he3, p4, q4, r4, u4, cf, h4, we1]; done)))
        | (refine AWP.condF ?_ ?_; (focus (simp [go_sem, he3, p4, q4, r4, u4, cf, h4, we1]; done)))
        | (apply AWP.rE; (focus (simp [go_sem, he3, p4, q4, r4, u4, cf, h4, we1]; exact ⟨rfl, rfl⟩)); try dsimp only [thn, inBlk])
        | (apply AWP.dE hmix [.n 0 [12], .n 1 [78], .n 2 [4, 79], .n 3 [80], .n 4 [12], .n 5 [82], .n 6 [83], .n 7 [81, 84], .n 8 [4, 79], .w 9 [86, 85] []]; (focus kernel_rfl); (focus (simp [go_sem, he3, p4, q4, r4, u4, cf, h4, we1]; exact ⟨rfl, rfl⟩)); try dsimp only [thn, inBlk])
        | (apply AWP.dE hmix [.n 0 [13], .n 1 [4, 91], .n 2 [92], .n 3 [13], .n 4 [5, 94], .n 5 [95], .n 6 [93, 96], .n 7 [97], .n 8 [98], .n 9 [13, 99], .n 10 [5, 100, 99], .n 11 [101, 99], .n 12 [13, 99], .n 13 [4, 103, 99], .n 14 [104, 99], .n 15 [102, 105, 99], .n 16 [99, 106]]; (focus kernel_rfl); (focus (simp [go_sem, he3, p4, q4, r4, u4, cf, h4, we1]; exact ⟨rfl, rfl⟩)); try dsimp only [thn, inBlk])
        | fail)
      exact ⟨fs.length - e1, by omega, e1, S2, by omega, rfl, by simp [go_sem], fun c hc => by rw [htk, sentOf_app, hs4 c hc, hS2 c hc]; omega, by (refine Own.sbl ?_ (kf); repeat' first | exact Sbl.nil _ | with_reducible exact Sbl.rfl _ | (apply Sbl.cons) | (apply Sbl.skip) | with_reducible exact Fnd.head _ _ | (apply Fnd.tail))⟩
    · obtain ⟨d, hd⟩ : ∃ d : Nat, f.1 = d := ⟨f.1.toNat, by omega⟩
      have hd4 : d < 4 := by omega
      have hd4' : (d : Int) < 4 := by omega
      have hd3 : d ≤ 3 := by omega
      have hs4 : ∀ c, c < 4 → sentOf c [f] = if c = d then (f.2.length : Int) else 0 := fun c hc => by
        rw [sentOf, hd]
        by_cases e : c = d
        · rw [if_pos (by omega), if_pos e]; simp [sentOf]
        · rw [if_neg (by omega), if_neg e]; rfl
      have cS := kf.b2.obj
      have lS := ar_len S2
      have gS := ar_get S2 hd4
      have sS := ar_set S2 hd4 (S2 d + f.2.length)
      have iv := inv d hd4
      have ov := hos d hd4
      have sv := hS2 d hd4
      have tk := sentOf_take d fs e1
      rw [htk, sentOf_app, hs4 d hd4, if_pos rfl] at tk
      have cr0 := mi2.cr0 d
      have cr1 := mi2.cr1 d
      have tp := sentOf_pos d (fs.take e)
      have cr2 := mi.cr1 d
      have cr3 := mi.cr0 d
      have ws : IntKind.i64.wrap (S2 d + (f.2.length : Int)) = S2 d + (f.2.length : Int) := wI64 (by omega) (by omega)
      have k10 := kf.b2.set (arow (upd S2 d (S2 d + f.2.length)))
      rw [hd] at u4 cf k10 h4 cS
      (repeat' first
        | refine AWP.seq ?_
        | refine AWP.block ?_
        | (refine AWP.skip ?_; try dsimp only [thn, inBlk])
        | (refine AWP.exit ?_; try simp only [thn, inBlk, if_true, reduceIte, Nat.reduceEqDiff])
        | (refine AWP.ret ?_; try dsimp only [thn, inBlk])
        | (refine AWP.condT ?_ ?_; (focus (simp [go_sem, he3, p4, q4, r4, u4, h4, cf]; done)))
        | (refine AWP.condF ?_ ?_; (focus (simp [go_sem, he3, p4, q4, r4, u4, h4, cf]; done)))
        | (apply AWP.rE; (focus (simp [go_sem, he3, p4, q4, r4, u4, h4, cf]; exact ⟨rfl, rfl⟩)); try dsimp only [thn, inBlk])
        | (apply AWP.dE hmix [.n 0 [12], .n 1 [78], .n 2 [4, 79], .n 3 [80], .n 4 [12], .n 5 [82], .n 6 [83], .n 7 [81, 84], .n 8 [4, 79], .w 9 [86, 85] []]; (focus kernel_rfl); (focus (simp [go_sem, he3, p4, q4, r4, u4, h4, cf]; exact ⟨rfl, rfl⟩)); try dsimp only [thn, inBlk])
        | (apply AWP.dE hmix [.n 0 [13], .n 1 [4, 91], .n 2 [92], .n 3 [13], .n 4 [5, 94], .n 5 [95], .n 6 [93, 96], .n 7 [97], .n 8 [98], .n 9 [13, 99], .n 10 [5, 100, 99], .n 11 [101, 99], .n 12 [13, 99], .n 13 [4, 103, 99], .n 14 [104, 99], .n 15 [102, 105, 99], .n 16 [99, 106]]; (focus kernel_rfl); (focus (simp [go_sem, he3, p4, q4, r4, u4, h4, cf]; exact ⟨rfl, rfl⟩)); try dsimp only [thn, inBlk])
        | fail)
      (apply AWP.dE hmix [.n 0 [12], .n 1 [78], .n 2 [4, 79], .n 3 [80], .n 4 [12], .n 5 [82], .n 6 [83], .n 7 [81, 84], .n 8 [4, 79], .w 9 [86, 85] []]; (focus kernel_rfl); (focus (simp [go_sem, cf, cS, gS, ar_g, lS, sS, ws, hd4', hd3]; exact ⟨rfl, rfl⟩)); try dsimp only [thn, inBlk])
      (repeat' first
        | refine AWP.seq ?_
        | refine AWP.block ?_
        | (refine AWP.skip ?_; try dsimp only [thn, inBlk])
        | (refine AWP.exit ?_; try simp only [thn, inBlk, if_true, reduceIte, Nat.reduceEqDiff])
        | (refine AWP.ret ?_; try dsimp only [thn, inBlk])
        | (refine AWP.condT ?_ ?_; (focus (simp [go_sem, we1]; done)))
        | (refine AWP.condF ?_ ?_; (focus (simp [go_sem, we1]; done)))
        | (apply AWP.rE; (focus (simp [go_sem, we1]; exact ⟨rfl, rfl⟩)); try dsimp only [thn, inBlk])
        | (apply AWP.dE hmix [.n 0 [12], .n 1 [78], .n 2 [4, 79], .n 3 [80], .n 4 [12], .n 5 [82], .n 6 [83], .n 7 [81, 84], .n 8 [4, 79], .w 9 [86, 85] []]; (focus kernel_rfl); (focus (simp [go_sem, we1]; exact ⟨rfl, rfl⟩)); try dsimp only [thn, inBlk])
        | (apply AWP.dE hmix [.n 0 [13], .n 1 [4, 91], .n 2 [92], .n 3 [13], .n 4 [5, 94], .n 5 [95], .n 6 [93, 96], .n 7 [97], .n 8 [98], .n 9 [13, 99], .n 10 [5, 100, 99], .n 11 [101, 99], .n 12 [13, 99], .n 13 [4, 103, 99], .n 14 [104, 99], .n 15 [102, 105, 99], .n 16 [99, 106]]; (focus kernel_rfl); (focus (simp [go_sem, we1]; exact ⟨rfl, rfl⟩)); try dsimp only [thn, inBlk])
        | fail)
      refine ⟨fs.length - e1, by omega, e1, upd S2 d (S2 d + f.2.length), by omega, rfl, by simp [go_sem], fun c hc => ?_, by (refine Own.sbl ?_ (k10); repeat' first | exact Sbl.nil _ | with_reducible exact Sbl.rfl _ | (apply Sbl.cons) | (apply Sbl.skip) | with_reducible exact Fnd.head _ _ | (apply Fnd.tail))⟩
      rw [htk, sentOf_app, hs4 c hc]
      by_cases e : c = d
      · subst e; rw [upd_same, if_pos rfl, sv]; omega
      · rw [upd_ne _ _ e, if_neg e, hS2 c hc]; omega
  have he3 : ¬ (e : Int) < fs.length := by omega
  obtain rfl : e = fs.length := by omega
  rw [List.take_length] at hS2
  (repeat' first
    | refine AWP.seq ?_
    | refine AWP.block ?_
    | (refine AWP.skip ?_; try dsimp only [thn, inBlk])
    | (refine AWP.exit ?_; try simp only [thn, inBlk, if_true, reduceIte, Nat.reduceEqDiff])
    | (refine AWP.ret ?_; try dsimp only [thn, inBlk])
    | (refine AWP.condT ?_ ?_; (focus (simp [go_sem, he3]; done)))
    | (refine AWP.condF ?_ ?_; (focus (simp [go_sem, he3]; done)))
    | (apply AWP.rE; (focus (simp [go_sem, he3]; exact ⟨rfl, rfl⟩)); try dsimp only [thn, inBlk])
    | (apply AWP.dE hmix [.n 0 [12], .n 1 [78], .n 2 [4, 79], .n 3 [80], .n 4 [12], .n 5 [82], .n 6 [83], .n 7 [81, 84], .n 8 [4, 79], .w 9 [86, 85] []]; (focus kernel_rfl); (focus (simp [go_sem, he3]; exact ⟨rfl, rfl⟩)); try dsimp only [thn, inBlk])
    | (apply AWP.dE hmix [.n 0 [13], .n 1 [4, 91], .n 2 [92], .n 3 [13], .n 4 [5, 94], .n 5 [95], .n 6 [93, 96], .n 7 [97], .n 8 [98], .n 9 [13, 99], .n 10 [5, 100, 99], .n 11 [101, 99], .n 12 [13, 99], .n 13 [4, 103, 99], .n 14 [104, 99], .n 15 [102, 105, 99], .n 16 [99, 106]]; (focus kernel_rfl); (focus (simp [go_sem, he3]; exact ⟨rfl, rfl⟩)); try dsimp only [thn, inBlk])
    | fail)
  refine AWP.loopR [3, 4, 5, 23, 24, 25, 88] (fun m s h' => ∃ (c : Nat), c ≤ 4 ∧ m = 4 - c ∧ s = ⟨110, [(3, ptr b), (4, ptr h3.next), (5, ptr (h3.next + 1)), (23, .slice va l.length vc), (24, .int .i64 l.length), (25, .int .i64 (j : Nat)), (88, .int .i64 (c : Nat))]⟩ ∧
    Own h.asOld h' [mux b o2 i2, cell h3.next (arow S2), cell (h3.next + 1) (arow B)]) ?_ ?_
  · exact ⟨_, 0, by omega, rfl, by simp [go_sem], by (refine Own.sbl ?_ (k8); repeat' first | exact Sbl.nil _ | with_reducible exact Sbl.rfl _ | (apply Sbl.cons) | (apply Sbl.skip) | with_reducible exact Fnd.head _ _ | (apply Fnd.tail))⟩
  rintro m s h8 ⟨c2, hc2, rfl, rfl, k9⟩
  by_cases hc3 : c2 < 4
  rotate_left
  · have hc3' : ¬ (c2 : Int) < 4 := by omega
    (repeat' first
      | refine AWP.seq ?_
      | refine AWP.block ?_
      | (refine AWP.skip ?_; try dsimp only [thn, inBlk])
      | (refine AWP.exit ?_; try simp only [thn, inBlk, if_true, reduceIte, Nat.reduceEqDiff])
      | (refine AWP.ret ?_; try dsimp only [thn, inBlk])
      | (refine AWP.condT ?_ ?_; (focus (simp [go_sem, hc3', wj]; done)))
      | (refine AWP.condF ?_ ?_; (focus (simp [go_sem, hc3', wj]; done)))
      | (apply AWP.rE; (focus (simp [go_sem, hc3', wj]; exact ⟨rfl, rfl⟩)); try dsimp only [thn, inBlk])
      | (apply AWP.dE hmix [.n 0 [12], .n 1 [78], .n 2 [4, 79], .n 3 [80], .n 4 [12], .n 5 [82], .n 6 [83], .n 7 [81, 84], .n 8 [4, 79], .w 9 [86, 85] []]; (focus kernel_rfl); (focus (simp [go_sem, hc3', wj]; exact ⟨rfl, rfl⟩)); try dsimp only [thn, inBlk])
      | (apply AWP.dE hmix [.n 0 [13], .n 1 [4, 91], .n 2 [92], .n 3 [13], .n 4 [5, 94], .n 5 [95], .n 6 [93, 96], .n 7 [97], .n 8 [98], .n 9 [13, 99], .n 10 [5, 100, 99], .n 11 [101, 99], .n 12 [13, 99], .n 13 [4, 103, 99], .n 14 [104, 99], .n 15 [102, 105, 99], .n 16 [99, 106]]; (focus kernel_rfl); (focus (simp [go_sem, hc3', wj]; exact ⟨rfl, rfl⟩)); try dsimp only [thn, inBlk])
      | fail)
    refine ⟨l.length - j1, by omega, j1, S2, B, o2, i2, by omega, rfl, by simp [go_sem], mi2, fun d hd => ?_, k9⟩
    have := inv d hd
    have := hos d hd
    have := hS2 d hd
    omega
  have hc3' : (c2 : Int) < 4 := by omega
  obtain ⟨c1, hc1⟩ : ∃ c1, c1 = c2 + 1 := ⟨_, rfl⟩
  have wc1 : IntKind.i64.wrap ((c2 : Int) + 1) = (c1 : Int) := by rw [wI64 (by omega) (by omega)]; omega
  have cS := k9.b1.obj
  have cB := k9.b2.obj
  have iv := inv c2 hc3
  have ov := hos c2 hc3
  have sv := hS2 c2 hc3
  have cr0 := mi2.cr0 c2
  have cr1 := mi2.cr1 c2
  have ws : IntKind.i64.wrap (S2 c2 - B c2) = S2 c2 - B c2 := wI64 (by omega) (by omega)
  have t1 : ¬ 1024 < S2 c2 - B c2 := by omega
  have t2 : ¬ S2 c2 < B c2 := by omega
  have lS := ar_len S2
  have lB := ar_len B
  have gS := ar_get S2 hc3
  have gB := ar_get B hc3
  have hc5 : c2 ≤ 3 := by omega
  (repeat' first
    | refine AWP.seq ?_
    | refine AWP.block ?_
    | (refine AWP.skip ?_; try dsimp only [thn, inBlk])
    | (refine AWP.exit ?_; try simp only [thn, inBlk, if_true, reduceIte, Nat.reduceEqDiff])
    | (refine AWP.ret ?_; try dsimp only [thn, inBlk])
    | (refine AWP.condT ?_ ?_; (focus (simp [go_sem, hc3, hc3', cS, cB, ws, t1, t2, lS, lB, gS, gB, ar_g, hc5, wc1]; done)))
    | (refine AWP.condF ?_ ?_; (focus (simp [go_sem, hc3, hc3', cS, cB, ws, t1, t2, lS, lB, gS, gB, ar_g, hc5, wc1]; done)))
    | (apply AWP.rE; (focus (simp [go_sem, hc3, hc3', cS, cB, ws, t1, t2, lS, lB, gS, gB, ar_g, hc5, wc1]; exact ⟨rfl, rfl⟩)); try dsimp only [thn, inBlk])
    | (apply AWP.dE hmix [.n 0 [12], .n 1 [78], .n 2 [4, 79], .n 3 [80], .n 4 [12], .n 5 [82], .n 6 [83], .n 7 [81, 84], .n 8 [4, 79], .w 9 [86, 85] []]; (focus kernel_rfl); (focus (simp [go_sem, hc3, hc3', cS, cB, ws, t1, t2, lS, lB, gS, gB, ar_g, hc5, wc1]; exact ⟨rfl, rfl⟩)); try dsimp only [thn, inBlk])
    | (apply AWP.dE hmix [.n 0 [13], .n 1 [4, 91], .n 2 [92], .n 3 [13], .n 4 [5, 94], .n 5 [95], .n 6 [93, 96], .n 7 [97], .n 8 [98], .n 9 [13, 99], .n 10 [5, 100, 99], .n 11 [101, 99], .n 12 [13, 99], .n 13 [4, 103, 99], .n 14 [104, 99], .n 15 [102, 105, 99], .n 16 [99, 106]]; (focus kernel_rfl); (focus (simp [go_sem, hc3, hc3', cS, cB, ws, t1, t2, lS, lB, gS, gB, ar_g, hc5, wc1]; exact ⟨rfl, rfl⟩)); try dsimp only [thn, inBlk])
    | fail)
  exact ⟨4 - c1, by omega, c1, by omega, rfl, by simp [go_sem], k9⟩
end L18
