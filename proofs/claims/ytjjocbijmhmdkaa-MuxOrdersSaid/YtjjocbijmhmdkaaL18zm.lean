import Derived.Test.YtjjocbijmhmdkaaL18zl
open Go Ab Go.Proofs
namespace L18
set_option autoImplicit false
set_option linter.unusedSimpArgs false
set_option linter.unusedVariables false
def AZ (a b : Nat) : Ad := ⟨fun s => if s = 0 then a else b, fun _ => (none, 0), fun _ => (none, 0), fun _ => (none, 0)⟩
abbrev nl : Value := .slice none 0 0
abbrev bf : Value := .bool false
theorem pz_cells (a b : Nat) : pcells PZ (AZ a b) = [ptr a, ptr b, nl, nl, nl, nl, nl, nl, nl, nl, nl, nl, nl, nl, nl, nl, nl, nl, nl, nl, bf, bf, bf, bf, bf, bf, bf, bf] := rfl
theorem pz_subs (a b : Nat) : psubs PZ (AZ a b) = mux a (zo 4) (zi 4) :: mux b (zo 4) (zi 4) :: frs nl [] :: frs nl [] :: List.replicate 16 (ob 5 nl []) := rfl
theorem own_nils {O : Old} {h : AHeap} {R : List Chunk} (k : Own O h R) : ∀ n, Own O h (List.replicate n (ob 5 nl []) ++ R)
  | 0 => k
  | n + 1 => (own_nils k n).nil 5 1
theorem pair_new {O : Old} {h : AHeap} {R : List Chunk} {i a b : Nat} (k : Own O h (cell i (.row [ptr a, ptr b, nl, nl, nl, nl, nl, nl, nl, nl, nl, nl, nl, nl, nl, nl, nl, nl, nl, nl, bf, bf, bf, bf, bf, bf, bf, bf] 58 28 true false) :: mux b (zo 4) (zi 4) :: mux a (zo 4) (zi 4) :: R)) : Own O h (pairc i PZ :: R) := by
  refine pairc_iff.2 ⟨AZ a b, ?_⟩
  rw [prow, pz_cells, pz_subs]
  have k1 := k.b1.b2
  have k2 : Own O h (frs nl [] :: frs nl [] :: mux a (zo 4) (zi 4) :: mux b (zo 4) (zi 4) :: cell i _ :: R) := (k1.brecs_nil 30 2 5).brecs_nil 30 2 5
  have k3 := own_nils k2 16
  have k4 := k3.perm (L' := cell i (.row [ptr a, ptr b, nl, nl, nl, nl, nl, nl, nl, nl, nl, nl, nl, nl, nl, nl, nl, nl, nl, nl, bf, bf, bf, bf, bf, bf, bf, bf] 58 28 true false) :: mux a (zo 4) (zi 4) :: mux b (zo 4) (zi 4) :: frs nl [] :: frs nl [] :: (List.replicate 16 (ob 5 nl []) ++ R)) (by
    generalize List.replicate 16 (ob 5 nl []) = N
    generalize frs nl [] = F
    generalize mux a (zo 4) (zi 4) = A
    generalize mux b (zo 4) (zi 4) = B
    generalize cell i (.row [ptr a, ptr b, nl, nl, nl, nl, nl, nl, nl, nl, nl, nl, nl, nl, nl, nl, nl, nl, nl, nl, bf, bf, bf, bf, bf, bf, bf, bf] 58 28 true false) = C
    have h1 : (N ++ F :: F :: A :: B :: C :: R).Perm ([F, F, A, B, C] ++ (N ++ R)) := List.perm_append_comm_assoc N [F, F, A, B, C] R
    refine h1.trans ?_
    show (F :: F :: A :: B :: C :: (N ++ R)).Perm (C :: A :: B :: F :: F :: (N ++ R))
    have h2 : ([F, F, A, B] ++ C :: (N ++ R)).Perm (C :: ([F, F, A, B] ++ (N ++ R))) := List.perm_middle
    refine h2.trans (List.Perm.cons _ ?_)
    have h3 : ([F, F] ++ A :: B :: (N ++ R)).Perm (A :: ([F, F] ++ B :: (N ++ R))) := List.perm_middle
    refine h3.trans (List.Perm.cons _ ?_)
    exact (List.perm_middle (l₁ := [F, F])))
  exact k4
attribute [local irreducible] pcells
set_option maxHeartbeats 16000000 in
theorem orders_calls {h : AHeap} {v : Value} {l : List Op} (hb : h.base = h.next) (hv : BR preO 6 h v l) (hl : l.length ≤ 9223372036854775807) (hwf : ∀ o ∈ l, o.1.Wf) :
    ACalls Try.prog 6 #[v] h fun r _ => r = .bool true := by
  refine Own.of_wf fun k0 => ?_
  obtain ⟨va, vc, rfl⟩ := hv.val
  refine ACalls.of_awp (args := [.slice va l.length vc]) (n := 153) Try.func6 rfl rfl (by show 1 ≤ 153; omega) ?_
  (repeat' first
    | refine AWP.seq ?_
    | refine AWP.block ?_
    | (refine AWP.skip ?_; try dsimp only [thn, inBlk])
    | (refine AWP.exit ?_; try simp only [thn, inBlk, if_true, reduceIte, Nat.reduceEqDiff])
    | (refine AWP.ret ?_; try dsimp only [thn, inBlk])
    | (refine AWP.condT ?_ ?_; (focus (simp [go_sem]; done)))
    | (refine AWP.condF ?_ ?_; (focus (simp [go_sem]; done)))
    | (apply AWP.rE; (focus (simp [go_sem]; exact ⟨rfl, rfl⟩)); try dsimp only [thn, inBlk])
    | fail)
  refine AWP.callE (by simp [go_sem]; exact ⟨rfl, rfl, rfl, rfl, rfl⟩) (by kernel_rfl) ?_
  refine (speaks_calls k0).mono ?_
  rintro r h1 ⟨rfl, k1⟩
  refine awpL_restE (by simp [go_sem]; exact ⟨rfl, rfl⟩) ?_; try dsimp only [thn, inBlk]
  (repeat' first
    | refine AWP.seq ?_
    | refine AWP.block ?_
    | (refine AWP.skip ?_; try dsimp only [thn, inBlk])
    | (refine AWP.exit ?_; try simp only [thn, inBlk, if_true, reduceIte, Nat.reduceEqDiff])
    | (refine AWP.ret ?_; try dsimp only [thn, inBlk])
    | (refine AWP.condT ?_ ?_; (focus (simp [go_sem]; done)))
    | (refine AWP.condF ?_ ?_; (focus (simp [go_sem]; done)))
    | (apply AWP.rE; (focus (simp [go_sem]; exact ⟨rfl, rfl⟩)); try dsimp only [thn, inBlk])
    | fail)
  refine AWP.callE (by simp [go_sem]; exact ⟨rfl, rfl, rfl, rfl, rfl⟩) (by kernel_rfl) ?_
  refine (great_calls hb hv k1 hl).mono ?_
  rintro r h2 ⟨rfl, k2⟩
  refine awpL_restE (by simp [go_sem]; exact ⟨rfl, rfl⟩) ?_; try dsimp only [thn, inBlk]
  cases hbig : big l
  rotate_left
  · (repeat' first
      | refine AWP.seq ?_
      | refine AWP.block ?_
      | (refine AWP.skip ?_; try dsimp only [thn, inBlk])
      | (refine AWP.exit ?_; try simp only [thn, inBlk, if_true, reduceIte, Nat.reduceEqDiff])
      | (refine AWP.ret ?_; try dsimp only [thn, inBlk])
      | (refine AWP.condT ?_ ?_; (focus (simp [go_sem]; done)))
      | (refine AWP.condF ?_ ?_; (focus (simp [go_sem]; done)))
      | (apply AWP.rE; (focus (simp [go_sem]; exact ⟨rfl, rfl⟩)); try dsimp only [thn, inBlk])
      | fail)
    simp [bodyQ, thn, inBlk, resA, resV, go_sem]
  have h80 : l.length ≤ 80 := by
    simp [big] at hbig; omega
  (repeat' first
    | refine AWP.seq ?_
    | refine AWP.block ?_
    | (refine AWP.skip ?_; try dsimp only [thn, inBlk])
    | (refine AWP.exit ?_; try simp only [thn, inBlk, if_true, reduceIte, Nat.reduceEqDiff])
    | (refine AWP.ret ?_; try dsimp only [thn, inBlk])
    | (refine AWP.condT ?_ ?_; (focus (simp [go_sem]; done)))
    | (refine AWP.condF ?_ ?_; (focus (simp [go_sem]; done)))
    | (apply AWP.rE; (focus (simp [go_sem]; exact ⟨rfl, rfl⟩)); try dsimp only [thn, inBlk])
    | fail)
  refine AWP.callE (by simp [go_sem]; exact ⟨rfl, rfl, rfl, rfl, rfl⟩) (by kernel_rfl) ?_
  refine (new_calls k2).mono ?_
  rintro r h3 ⟨a, rfl, k3⟩
  refine awpL_toCall (by simp [go_sem]; exact ⟨rfl, rfl, rfl, rfl, rfl⟩) (by kernel_rfl) ?_
  refine (new_calls k3).mono ?_
  rintro r h4 ⟨b, rfl, k4⟩
  have k5 := k4.push (.row [ptr a, ptr b, nl, nl, nl, nl, nl, nl, nl, nl, nl, nl, nl, nl, nl, nl, nl, nl, nl, nl, bf, bf, bf, bf, bf, bf, bf, bf] 58 28 true false)
  have c5 := k5.obj
  refine awpL_restE (by simp [go_sem]; exact ⟨rfl, rfl⟩) ?_; try dsimp only [thn, inBlk]
  (repeat' first
    | refine AWP.seq ?_
    | refine AWP.block ?_
    | (refine AWP.skip ?_; try dsimp only [thn, inBlk])
    | (refine AWP.exit ?_; try simp only [thn, inBlk, if_true, reduceIte, Nat.reduceEqDiff])
    | (refine AWP.ret ?_; try dsimp only [thn, inBlk])
    | (refine AWP.condT ?_ ?_; (focus (simp [go_sem, c5]; done)))
    | (refine AWP.condF ?_ ?_; (focus (simp [go_sem, c5]; done)))
    | (apply AWP.rE; (focus (simp [go_sem, c5]; exact ⟨rfl, rfl⟩)); try dsimp only [thn, inBlk])
    | fail)
  have k6 := pair_new k5
  obtain ⟨pb_, hpb_⟩ : ∃ pb_, pb_ = h4.next := ⟨_, rfl⟩
  rw [← hpb_] at k6
  have jz : JB 0 0 PZ := ⟨Inv.new, fun _ => Nat.le_refl _, fun _ => Nat.le_refl _⟩
  refine AWP.loopR [3, 34, 35, 36] (fun m s h' => ∃ (j : Nat) (P : PS), j ≤ l.length ∧ m = l.length - j ∧ s = ⟨153, [(3, ptr pb_), (34, .slice va l.length vc), (35, .int .i64 l.length), (36, .int .i64 (j : Nat))]⟩ ∧ JB (8191 * j) (16 * j) P ∧ Own h.asOld h' [pairc pb_ P]) ?_ ?_
  · exact ⟨_, 0, PZ, by omega, rfl, by simp [go_sem, hpb_], jz, k6⟩
  rintro m s h5 ⟨j, P, hj, rfl, rfl, jb, kt⟩
  by_cases hj2 : j < l.length
  · have hj3 : (j : Int) < l.length := by omega
    obtain ⟨j1, hj1⟩ : ∃ j1, j1 = j + 1 := ⟨_, rfl⟩
    have wj : IntKind.i64.wrap ((j : Int) + 1) = (j1 : Int) := by rw [wI64 (by omega) (by omega)]; omega
    obtain ⟨oi, oo, oc, oe, osz, oti, oro, oa, ocap, p1, p2, p3, p4, p5⟩ := op_at (hv.of_old hb kt) hj2 (kd := .i64)
    obtain ⟨q, hq⟩ : ∃ q, q = l[j] := ⟨_, rfl⟩
    rw [← hq] at p4 p5
    have kp := kt.push (.row (orow q oa ocap) 32 6 true false)
    have cp := kp.obj
    (repeat' first
      | refine AWP.seq ?_
      | refine AWP.block ?_
      | (refine AWP.skip ?_; try dsimp only [thn, inBlk])
      | (refine AWP.exit ?_; try simp only [thn, inBlk, if_true, reduceIte, Nat.reduceEqDiff])
      | (refine AWP.ret ?_; try dsimp only [thn, inBlk])
      | (refine AWP.condT ?_ ?_; (focus (simp [go_sem, hj3, p1, p2, p3, p4, cp]; done)))
      | (refine AWP.condF ?_ ?_; (focus (simp [go_sem, hj3, p1, p2, p3, p4, cp]; done)))
      | (apply AWP.rE; (focus (simp [go_sem, hj3, p1, p2, p3, p4, cp]; exact ⟨rfl, rfl⟩)); try dsimp only [thn, inBlk])
      | fail)
    refine AWP.callE (by simp [go_sem, cp]; exact ⟨rfl, rfl, rfl, rfl, rfl⟩) (by kernel_rfl) ?_
    refine (step_calls (JB.step (n := 8191 * j) (m := 16 * j) (by omega) (by omega)) jb kp.b1 (j := j) (by omega) q).mono ?_
    rintro r h6 ⟨rfl, k7⟩
    refine awpL_restE (by simp [go_sem]; exact ⟨rfl, rfl⟩) ?_; try dsimp only [thn, inBlk]
    (repeat' first
      | refine AWP.seq ?_
      | refine AWP.block ?_
      | (refine AWP.skip ?_; try dsimp only [thn, inBlk])
      | (refine AWP.exit ?_; try simp only [thn, inBlk, if_true, reduceIte, Nat.reduceEqDiff])
      | (refine AWP.ret ?_; try dsimp only [thn, inBlk])
      | (refine AWP.condT ?_ ?_; (focus (simp [go_sem, wj]; done)))
      | (refine AWP.condF ?_ ?_; (focus (simp [go_sem, wj]; done)))
      | (apply AWP.rE; (focus (simp [go_sem, wj]; exact ⟨rfl, rfl⟩)); try dsimp only [thn, inBlk])
      | fail)
    have jb2 := jb.pstep (by omega) q j
    exact ⟨l.length - j1, by omega, j1, _, by omega, rfl, by simp [go_sem], jb2.mono (by omega) (by omega), k7.d1⟩
  have hj3 : ¬ (j : Int) < l.length := by omega
  have jb0 : JB (8191 * j) 1280 P := jb.mono (Nat.le_refl _) (by omega)
  obtain ⟨n, hn⟩ : ∃ n, n = 8191 * j := ⟨_, rfl⟩
  have hn2 : n ≤ 1000000 := by omega
  rw [← hn] at jb0
  (repeat' first
    | refine AWP.seq ?_
    | refine AWP.block ?_
    | (refine AWP.skip ?_; try dsimp only [thn, inBlk])
    | (refine AWP.exit ?_; try simp only [thn, inBlk, if_true, reduceIte, Nat.reduceEqDiff])
    | (refine AWP.ret ?_; try dsimp only [thn, inBlk])
    | (refine AWP.condT ?_ ?_; (focus (simp [go_sem, hj3]; done)))
    | (refine AWP.condF ?_ ?_; (focus (simp [go_sem, hj3]; done)))
    | (apply AWP.rE; (focus (simp [go_sem, hj3]; exact ⟨rfl, rfl⟩)); try dsimp only [thn, inBlk])
    | fail)
  refine AWP.loopR [3, 6] (fun m s h' => ∃ (u : Nat), u ≤ 20 ∧ m = 20 - u ∧ s = ⟨153, [(3, ptr pb_), (6, .int .i64 (u : Nat))]⟩ ∧ Own h.asOld h' [pairc pb_ (turns u P)]) ?_ ?_
  · exact ⟨_, 0, by omega, rfl, by simp [go_sem], kt⟩
  rintro m s h6 ⟨u, hu, rfl, rfl, kt⟩
  by_cases hu2 : u < 20
  · have hu3 : (u : Int) < 20 := by omega
    obtain ⟨u1, hu1⟩ : ∃ u1, u1 = u + 1 := ⟨_, rfl⟩
    have wu : IntKind.i64.wrap ((u : Int) + 1) = (u1 : Int) := by rw [wI64 (by omega) (by omega)]; omega
    obtain ⟨P1, hP1⟩ : ∃ P1, P1 = turns u P := ⟨_, rfl⟩
    have jb1 : JB n 2000 P1 := by rw [hP1]; exact (turns_JB jb0 u (by omega)).mono (Nat.le_refl _) (by omega)
    rw [← hP1] at kt
    (repeat' first
      | refine AWP.seq ?_
      | refine AWP.block ?_
      | (refine AWP.skip ?_; try dsimp only [thn, inBlk])
      | (refine AWP.exit ?_; try simp only [thn, inBlk, if_true, reduceIte, Nat.reduceEqDiff])
      | (refine AWP.ret ?_; try dsimp only [thn, inBlk])
      | (refine AWP.condT ?_ ?_; (focus (simp [go_sem, hu3]; done)))
      | (refine AWP.condF ?_ ?_; (focus (simp [go_sem, hu3]; done)))
      | (apply AWP.rE; (focus (simp [go_sem, hu3]; exact ⟨rfl, rfl⟩)); try dsimp only [thn, inBlk])
      | fail)
    refine AWP.loopR [3, 6, 7] (fun m s h' => ∃ (w : Nat) (P2 : PS), w ≤ 2 ∧ m = 2 - w ∧ s = ⟨153, [(3, ptr pb_), (6, .int .i64 (u : Nat)), (7, .int .i64 (w : Nat))]⟩ ∧ JB n (2000 + 16 * w) P2 ∧ (w = 0 → P2 = P1) ∧ (w = 1 → P2 = phase 0 P1) ∧ (w = 2 → P2 = turn P1) ∧ Own h.asOld h' [pairc pb_ P2]) ?_ ?_
    · exact ⟨_, 0, P1, by omega, rfl, by simp [go_sem], jb1, fun _ => rfl, fun h => by omega, fun h => by omega, kt⟩
    rintro m s h7 ⟨w, P2, hw, rfl, rfl, jb2, e0, e1, e2, kt⟩
    by_cases hw2 : w < 2
    rotate_left
    · have hw3 : ¬ (w : Int) < 2 := by omega
      (repeat' first
        | refine AWP.seq ?_
        | refine AWP.block ?_
        | (refine AWP.skip ?_; try dsimp only [thn, inBlk])
        | (refine AWP.exit ?_; try simp only [thn, inBlk, if_true, reduceIte, Nat.reduceEqDiff])
        | (refine AWP.ret ?_; try dsimp only [thn, inBlk])
        | (refine AWP.condT ?_ ?_; (focus (simp [go_sem, hw3, wu]; done)))
        | (refine AWP.condF ?_ ?_; (focus (simp [go_sem, hw3, wu]; done)))
        | (apply AWP.rE; (focus (simp [go_sem, hw3, wu]; exact ⟨rfl, rfl⟩)); try dsimp only [thn, inBlk])
        | fail)
      refine ⟨20 - u1, by omega, u1, by omega, rfl, by simp [go_sem], ?_⟩
      rw [hu1, turns, ← hP1, ← e2 (by omega)]
      exact kt
    have hw3 : (w : Int) < 2 := by omega
    obtain ⟨w1, hw1⟩ : ∃ w1, w1 = w + 1 := ⟨_, rfl⟩
    have ww : IntKind.i64.wrap ((w : Int) + 1) = (w1 : Int) := by rw [wI64 (by omega) (by omega)]; omega
    obtain ⟨w', hw'⟩ : ∃ w', w' = 1 - w := ⟨_, rfl⟩
    have hs2' : w' < 2 := by omega
    have hsi' : (w' : Int) < 2 := by omega
    have pb := (pbs (c := 0) hw2 (by omega)).b
    have pb' := (pbs (c := 0) hs2' (by omega)).b
    have wx := sub1 hw2
    rw [← hw'] at wx
    obtain ⟨A, kA⟩ := pairc_iff.1 kt
    have c0 := kA.obj
    have pl := p_len (P := P2) (A := A)
    have gm := pc_m (P := P2) (A := A) hw2
    have gw := pc_way (P := P2) (A := A) hs2'
    have mi := jb2.inv.mi w hw2
    have hwl := jb2.way w'
    have hol := mout_len mi
    obtain ⟨PW, hPW⟩ : ∃ PW, PW = pout P2 w := ⟨_, rfl⟩
    have jb3 : JB n (2000 + 16 * w + 16) PW := by rw [hPW]; exact jb2.out hw2
    (repeat' first
      | refine AWP.seq ?_
      | refine AWP.block ?_
      | (refine AWP.skip ?_; try dsimp only [thn, inBlk])
      | (refine AWP.exit ?_; try simp only [thn, inBlk, if_true, reduceIte, Nat.reduceEqDiff])
      | (refine AWP.ret ?_; try dsimp only [thn, inBlk])
      | (refine AWP.condT ?_ ?_; (focus (simp [go_sem, hw3]; done)))
      | (refine AWP.condF ?_ ?_; (focus (simp [go_sem, hw3]; done)))
      | (apply AWP.rE; (focus (simp [go_sem, hw3]; exact ⟨rfl, rfl⟩)); try dsimp only [thn, inBlk])
      | fail)
    (repeat refine AWP.seq ?_)
    refine AWP.draw hmix [.n 0 [3], .n 1 [7], .n 2 [56], .n 3 [3], .n 4 [7], .n 5 [59], .n 6 [58], .n 7 [61], .n 8 [62, 60], .n 9 [63], .n 10 [3], .n 11 [7], .n 12 [65], .n 13 [67], .n 14 [68, 66], .n 15 [69], .n 18 [55], .n 19 [73], .w 16 [70] [9], .w 17 [64, 71] [], .n 20 [74, 57], .w 21 [75, 72] []] (by kernel_rfl) ?_
    refine awpD_callR 18 (by rfl) (by rfl) (by simp [go_sem, c0, pl, gm, gw, pb, pb', hw3, hsi', wx]; exact ⟨rfl, rfl, rfl⟩) (by rfl) (by rfl) (by simp [go_sem]) (by simp [go_sem, c0, pl, gm, gw, pb, pb', hw3, hsi', wx]; exact ⟨rfl, rfl⟩) (by kernel_rfl) ?_
    refine (out_calls (po_outM hw2 kA) mi).mono ?_
    rintro r h9 ⟨fa, fc, rfl, k9⟩
    have k10 := po_inM2 hw2 (mout (P2.o w) (P2.i w)).2.1 (mout (P2.o w) (P2.i w)).2.2 k9.p2
    obtain ⟨fs, hfs⟩ : ∃ fs, fs = (mout (P2.o w) (P2.i w)).1 := ⟨_, rfl⟩
    rw [← hfs] at k10 hol ⊢
    obtain ⟨P3, hP3⟩ : ∃ P3 : PS, P3 = { P2 with o := up P2.o w (mout (P2.o w) (P2.i w)).2.1, i := up P2.i w (mout (P2.o w) (P2.i w)).2.2 } := ⟨_, rfl⟩
    rw [← hP3] at k10
    have hpc : pcells P3 A = pcells P2 A := by rw [hP3]; exact pcells_oi P2 A _ _
    have c10 : h9.obj pb_ = some (.row (pcells P2 A) 58 28 true false) := by rw [← hpc]; exact k10.obj
    refine ⟨by simp [still, go_sem, c10, pl, gm, gw, pb, pb', hw3, hsi', wx], ?_⟩
    have k11 := po_out (j := 2 + w') (by omega) k10
    have e1w : P3.way = P2.way := by rw [hP3]
    rw [ps_way hs2', e1w] at k11
    have k12 := k11.perm ((List.perm_middle (l₁ := cell pb_ (prow P3 A) :: (psubs P3 A).eraseIdx (2 + w'))).cons _)
    obtain ⟨a5, c5', h13, e5, k13⟩ := frs_app k12 (by omega)
    have c13 : h13.obj pb_ = some (.row (pcells P2 A) 58 28 true false) := by rw [← hpc]; exact k13.tail.obj
    refine awpD_writeR 0 (by rfl) (by rfl) (by simp [go_sem, c10, pl, gm, gw, pb, pb', hw3, hsi', wx, e5, c13]; exact ⟨rfl, rfl, rfl⟩) (by rfl) (by rfl) (by simp [go_sem]) (by simp [go_sem, c10, pl, gm, gw, pb, pb', hw3, hsi', wx, e5, c13]; exact ⟨rfl, rfl⟩) (by simp [still, go_sem, c10, pl, gm, gw, pb, pb', hw3, hsi', wx, e5, c13]) ?_
    obtain ⟨P4, hP4⟩ : ∃ P4 : PS, P4 = { P3 with way := up P3.way w' (P2.way w' ++ fs) } := ⟨_, rfl⟩
    obtain ⟨A2, hA2⟩ : ∃ A2 : Ad, A2 = { A with wa := up A.wa w' (a5, c5') } := ⟨_, rfl⟩
    have hlen : (P2.way w').length + fs.length = (P2.way w' ++ fs).length := by simp
    have e6 : (pcells P2 A).set (2 + w') (.slice a5 ((P2.way w').length + fs.length) c5') = pcells P4 A2 := by
      rw [← hpc, pset_way hs2' (P2.way w' ++ fs) hlen, hP4, hA2]
    have k14 := k13.b1.set (prow P4 A2)
    have k15 : Own h.asOld (h13.set pb_ (prow P4 A2)) (cell pb_ (prow P4 A2) :: (psubs P4 A2 ++ [])) := by
      refine po_in (P := P3) (A := A) (j := 2 + w') (by omega) ?_ ?_
      rotate_left
      · rw [ps_way hs2']
        have e1 : P4.way w' = P2.way w' ++ fs := by rw [hP4]; exact up_same _ _ _
        have e2 : A2.wa w' = (a5, c5') := by rw [hA2]; exact up_same _ _ _
        rw [e1, e2, ← hlen]
        exact k14.b1
      · rw [hP4, hA2]; exact pk_way hs2' _ _
    have eP : PW = P4 := by rw [hPW, pout, hP4, hP3, hfs, hw']
    have k16 : Own h.asOld (h13.set pb_ (prow P4 A2)) [pairc pb_ PW] := by rw [eP]; exact pairc_iff.2 ⟨A2, k15⟩
    refine awpD_writeR 1 (by rfl) (by rfl) (by simp [go_sem, pl, gm, gw, pb, pb', hw3, hsi', wx, c13, e6]; exact ⟨rfl, rfl, rfl⟩) (by rfl) (by rfl) (by simp [go_sem]) (by simp [go_sem, pl, gm, gw, pb, pb', hw3, hsi', wx, c13, e6]; exact ⟨rfl, rfl⟩) (by simp [still, go_sem, pl, gm, gw, pb, pb', hw3, hsi', wx, c13, e6]) ?_
    refine awpD_restR (by rfl) (by simp [go_sem]; exact ⟨rfl, rfl, rfl⟩) ?_; try dsimp only [thn, inBlk]
    (repeat' first
      | refine AWP.seq ?_
      | refine AWP.block ?_
      | (refine AWP.skip ?_; try dsimp only [thn, inBlk])
      | (refine AWP.exit ?_; try simp only [thn, inBlk, if_true, reduceIte, Nat.reduceEqDiff])
      | (refine AWP.ret ?_; try dsimp only [thn, inBlk])
      | (refine AWP.condT ?_ ?_; (focus (simp [go_sem]; done)))
      | (refine AWP.condF ?_ ?_; (focus (simp [go_sem]; done)))
      | (apply AWP.rE; (focus (simp [go_sem]; exact ⟨rfl, rfl⟩)); try dsimp only [thn, inBlk])
      | fail)
    refine AWP.callE (by simp [go_sem, wx]; exact ⟨rfl, rfl, rfl, rfl, rfl⟩) (by kernel_rfl) ?_
    refine (pass_calls k16 hs2' (JB.pass (n := n) (m := 2000 + 16 * w + 16) (by omega) hs2') jb3 (n := 1000) (by omega)).mono ?_
    rintro r h17 ⟨rfl, k17, jb4⟩
    obtain ⟨P5, hP5⟩ : ∃ P5, P5 = ppass w' 1000 PW := ⟨_, rfl⟩
    rw [← hP5] at k17 jb4
    refine awpL_restE (by simp [go_sem]; exact ⟨rfl, rfl⟩) ?_; try dsimp only [thn, inBlk]
    (repeat' first
      | refine AWP.seq ?_
      | refine AWP.block ?_
      | (refine AWP.skip ?_; try dsimp only [thn, inBlk])
      | (refine AWP.exit ?_; try simp only [thn, inBlk, if_true, reduceIte, Nat.reduceEqDiff])
      | (refine AWP.ret ?_; try dsimp only [thn, inBlk])
      | (refine AWP.condT ?_ ?_; (focus (simp [go_sem]; done)))
      | (refine AWP.condF ?_ ?_; (focus (simp [go_sem]; done)))
      | (apply AWP.rE; (focus (simp [go_sem]; exact ⟨rfl, rfl⟩)); try dsimp only [thn, inBlk])
      | fail)
    refine AWP.loopR [3, 6, 7, 8] (fun m s h' => ∃ (c : Nat), c ≤ 4 ∧ m = 4 - c ∧ s = ⟨153, [(3, ptr pb_), (6, .int .i64 (u : Nat)), (7, .int .i64 (w : Nat)), (8, .int .i64 (c : Nat))]⟩ ∧ Own h.asOld h' [pairc pb_ (pgets w' c P5)]) ?_ ?_
    · exact ⟨_, 0, by omega, rfl, by simp [go_sem], k17⟩
    rintro m s h18 ⟨c, hc, rfl, rfl, k18⟩
    by_cases hc2 : c < 4
    rotate_left
    · have hc3 : ¬ (c : Int) < 4 := by omega
      obtain rfl : c = 4 := by omega
      (repeat' first
        | refine AWP.seq ?_
        | refine AWP.block ?_
        | (refine AWP.skip ?_; try dsimp only [thn, inBlk])
        | (refine AWP.exit ?_; try simp only [thn, inBlk, if_true, reduceIte, Nat.reduceEqDiff])
        | (refine AWP.ret ?_; try dsimp only [thn, inBlk])
        | (refine AWP.condT ?_ ?_; (focus (simp [go_sem, hc3, ww]; done)))
        | (refine AWP.condF ?_ ?_; (focus (simp [go_sem, hc3, ww]; done)))
        | (apply AWP.rE; (focus (simp [go_sem, hc3, ww]; exact ⟨rfl, rfl⟩)); try dsimp only [thn, inBlk])
        | fail)
      have eph : pgets w' 4 P5 = phase w P2 := by rw [phase, ← hw', ← hPW, ← hP5]
      rw [eph] at k18
      refine ⟨2 - w1, by omega, w1, phase w P2, by omega, rfl, by simp [go_sem], (phase_JB jb2 (by omega) hw2).mono (Nat.le_refl _) (by omega), fun h => by omega, fun h => ?_, fun h => ?_, k18⟩
      · obtain rfl : w = 0 := by omega
        rw [e0 rfl]
      · obtain rfl : w = 1 := by omega
        rw [e1 rfl]; rfl
    have hc3 : (c : Int) < 4 := by omega
    obtain ⟨c1, hc1⟩ : ∃ c1, c1 = c + 1 := ⟨_, rfl⟩
    have wc : IntKind.i64.wrap ((c : Int) + 1) = (c1 : Int) := by rw [wI64 (by omega) (by omega)]; omega
    have jb5 := pgets_JB jb4 hs2' c hc
    have gg := jb5.inv.get 5000 hs2' hc2
    have hwr := jb5.wr ((1 - w') * 4 + c)
    (repeat' first
      | refine AWP.seq ?_
      | refine AWP.block ?_
      | (refine AWP.skip ?_; try dsimp only [thn, inBlk])
      | (refine AWP.exit ?_; try simp only [thn, inBlk, if_true, reduceIte, Nat.reduceEqDiff])
      | (refine AWP.ret ?_; try dsimp only [thn, inBlk])
      | (refine AWP.condT ?_ ?_; (focus (simp [go_sem, hc3]; done)))
      | (refine AWP.condF ?_ ?_; (focus (simp [go_sem, hc3]; done)))
      | (apply AWP.rE; (focus (simp [go_sem, hc3]; exact ⟨rfl, rfl⟩)); try dsimp only [thn, inBlk])
      | fail)
    refine AWP.callE (by simp [go_sem, wx]; exact ⟨rfl, rfl, rfl, rfl, rfl⟩) (by kernel_rfl) ?_
    refine (get_calls k18 (jb5.inv.mi w' hs2') hs2' hc2 5000 gg (by omega)).mono ?_
    rintro r h19 ⟨rfl, k19⟩
    refine awpL_restE (by simp [go_sem]; exact ⟨rfl, rfl⟩) ?_; try dsimp only [thn, inBlk]
    (repeat' first
      | refine AWP.seq ?_
      | refine AWP.block ?_
      | (refine AWP.skip ?_; try dsimp only [thn, inBlk])
      | (refine AWP.exit ?_; try simp only [thn, inBlk, if_true, reduceIte, Nat.reduceEqDiff])
      | (refine AWP.ret ?_; try dsimp only [thn, inBlk])
      | (refine AWP.condT ?_ ?_; (focus (simp [go_sem, wc]; done)))
      | (refine AWP.condF ?_ ?_; (focus (simp [go_sem, wc]; done)))
      | (apply AWP.rE; (focus (simp [go_sem, wc]; exact ⟨rfl, rfl⟩)); try dsimp only [thn, inBlk])
      | fail)
    exact ⟨4 - c1, by omega, c1, by omega, rfl, by simp [go_sem], by rw [hc1, pgets]; exact k19⟩
  have hu3 : ¬ (u : Int) < 20 := by omega
  obtain rfl : u = 20 := by omega
  obtain ⟨fin1, fin2⟩ := all_come jb0
  have jb20 := turns_JB jb0 20 (by omega)
  obtain ⟨PF, hPF⟩ : ∃ PF, PF = turns 20 P := ⟨_, rfl⟩
  rw [← hPF] at kt fin1 fin2 jb20
  (repeat' first
    | refine AWP.seq ?_
    | refine AWP.block ?_
    | (refine AWP.skip ?_; try dsimp only [thn, inBlk])
    | (refine AWP.exit ?_; try simp only [thn, inBlk, if_true, reduceIte, Nat.reduceEqDiff])
    | (refine AWP.ret ?_; try dsimp only [thn, inBlk])
    | (refine AWP.condT ?_ ?_; (focus (simp [go_sem, hu3]; done)))
    | (refine AWP.condF ?_ ?_; (focus (simp [go_sem, hu3]; done)))
    | (apply AWP.rE; (focus (simp [go_sem, hu3]; exact ⟨rfl, rfl⟩)); try dsimp only [thn, inBlk])
    | fail)
  refine AWP.loopR [3, 9] (fun m s h' => ∃ (w : Nat), w ≤ 2 ∧ m = 2 - w ∧ s = ⟨153, [(3, ptr pb_), (9, .int .i64 (w : Nat))]⟩ ∧ Own h.asOld h' [pairc pb_ PF]) ?_ ?_
  · exact ⟨_, 0, by omega, rfl, by simp [go_sem], kt⟩
  rintro m s h7 ⟨w, hw, rfl, rfl, kt⟩
  by_cases hw2 : w < 2
  · have hw3 : (w : Int) < 2 := by omega
    obtain ⟨w1, hw1⟩ : ∃ w1, w1 = w + 1 := ⟨_, rfl⟩
    have ww : IntKind.i64.wrap ((w : Int) + 1) = (w1 : Int) := by rw [wI64 (by omega) (by omega)]; omega
    (repeat' first
      | refine AWP.seq ?_
      | refine AWP.block ?_
      | (refine AWP.skip ?_; try dsimp only [thn, inBlk])
      | (refine AWP.exit ?_; try simp only [thn, inBlk, if_true, reduceIte, Nat.reduceEqDiff])
      | (refine AWP.ret ?_; try dsimp only [thn, inBlk])
      | (refine AWP.condT ?_ ?_; (focus (simp [go_sem, hw3]; done)))
      | (refine AWP.condF ?_ ?_; (focus (simp [go_sem, hw3]; done)))
      | (apply AWP.rE; (focus (simp [go_sem, hw3]; exact ⟨rfl, rfl⟩)); try dsimp only [thn, inBlk])
      | fail)
    refine AWP.loopR [3, 9, 10] (fun m s h' => ∃ (c : Nat), c ≤ 4 ∧ m = 4 - c ∧ s = ⟨153, [(3, ptr pb_), (9, .int .i64 (w : Nat)), (10, .int .i64 (c : Nat))]⟩ ∧ Own h.asOld h' [pairc pb_ PF]) ?_ ?_
    · exact ⟨_, 0, by omega, rfl, by simp [go_sem], kt⟩
    rintro m s h8 ⟨c, hc, rfl, rfl, k8⟩
    by_cases hc2 : c < 4
    rotate_left
    · have hc3 : ¬ (c : Int) < 4 := by omega
      (repeat' first
        | refine AWP.seq ?_
        | refine AWP.block ?_
        | (refine AWP.skip ?_; try dsimp only [thn, inBlk])
        | (refine AWP.exit ?_; try simp only [thn, inBlk, if_true, reduceIte, Nat.reduceEqDiff])
        | (refine AWP.ret ?_; try dsimp only [thn, inBlk])
        | (refine AWP.condT ?_ ?_; (focus (simp [go_sem, hc3, ww]; done)))
        | (refine AWP.condF ?_ ?_; (focus (simp [go_sem, hc3, ww]; done)))
        | (apply AWP.rE; (focus (simp [go_sem, hc3, ww]; exact ⟨rfl, rfl⟩)); try dsimp only [thn, inBlk])
        | fail)
      exact ⟨2 - w1, by omega, w1, by omega, rfl, by simp [go_sem], k8⟩
    have hc3 : (c : Int) < 4 := by omega
    obtain ⟨c1, hc1⟩ : ∃ c1, c1 = c + 1 := ⟨_, rfl⟩
    have wc : IntKind.i64.wrap ((c : Int) + 1) = (c1 : Int) := by rw [wI64 (by omega) (by omega)]; omega
    obtain ⟨w', hw'⟩ : ∃ w', w' = 1 - w := ⟨_, rfl⟩
    have hs2' : w' < 2 := by omega
    have hsi' : (w' : Int) < 2 := by omega
    have pb := (pbs hw2 hc2).b
    have pb' := (pbs hs2' hc2).b
    have wx := sub1 hw2
    rw [← hw'] at wx
    obtain ⟨A, kA⟩ := pairc_iff.1 k8
    have c0 := kA.obj
    have pl := p_len (P := PF) (A := A)
    have gm := pc_m (P := PF) (A := A) hw2
    have gr := gc_rd (P := PF) (A := A) hw2 hc2
    have gw := gc_wr (P := PF) (A := A) hs2' hc2
    have gc := gc_cl (P := PF) (A := A) hs2' hc2
    obtain ⟨e1, e2⟩ := fin1 w c hw2 hc2
    rw [← hw'] at e1 e2
    rw [e1] at gr
    rw [← e2] at gc
    (repeat' first
      | refine AWP.seq ?_
      | refine AWP.block ?_
      | (refine AWP.skip ?_; try dsimp only [thn, inBlk])
      | (refine AWP.exit ?_; try simp only [thn, inBlk, if_true, reduceIte, Nat.reduceEqDiff])
      | (refine AWP.ret ?_; try dsimp only [thn, inBlk])
      | (refine AWP.condT ?_ ?_; (focus (simp [go_sem, hc3]; done)))
      | (refine AWP.condF ?_ ?_; (focus (simp [go_sem, hc3]; done)))
      | (apply AWP.rE; (focus (simp [go_sem, hc3]; exact ⟨rfl, rfl⟩)); try dsimp only [thn, inBlk])
      | fail)
    (repeat refine AWP.seq ?_)
    refine AWP.draw hmix [.n 0 [3], .n 1 [9], .n 2 [10], .n 3 [99], .n 4 [102], .n 5 [103, 100], .n 6 [104, 101], .n 7 [105], .n 8 [106], .n 9 [3], .n 10 [9], .n 11 [109], .n 12 [10], .n 13 [108], .n 14 [112], .n 15 [113, 110], .n 16 [114, 111], .n 17 [115], .n 18 [116], .n 19 [107, 117], .n 20 [118], .n 21 [3, 119], .n 22 [9, 119], .n 23 [120, 119], .n 24 [122, 119], .n 25 [123, 121, 119], .n 26 [124, 119], .n 27 [10, 119], .n 29 [3, 119], .n 30 [9, 119], .n 31 [129, 119], .n 32 [10, 119], .n 33 [128, 119], .n 34 [132, 119], .n 35 [133, 130, 119], .n 36 [134, 131, 119], .n 37 [135, 119], .w 28 [125, 126, 119] [37], .n 38 [127, 136, 119], .n 39 [119, 137]] (by kernel_rfl) ?_
    refine awpD_callR 37 (by rfl) (by rfl) (by simp [go_sem, c0, pl, gm, gr, gw, gc, pb, pb', hw3, hsi', wx, hc3]; exact ⟨rfl, rfl, rfl⟩) (by rfl) (by rfl) (by simp [go_sem]) (by simp [go_sem, c0, pl, gm, gr, gw, gc, pb, pb', hw3, hsi', wx, hc3]; exact ⟨rfl, rfl⟩) (by kernel_rfl) ?_
    refine (ended_calls (po_outM hw2 kA) c).mono ?_
    rintro r h9 ⟨rfl, rfl⟩
    refine ⟨by simp [still, go_sem, c0, pl, gm, gr, gw, gc, pb, pb', hw3, hsi', wx, hc3], ?_⟩
    refine awpD_restR (by rfl) (by simp [go_sem]; exact ⟨rfl, rfl, rfl⟩) ?_; try dsimp only [thn, inBlk]
    (repeat' first
      | refine AWP.seq ?_
      | refine AWP.block ?_
      | (refine AWP.skip ?_; try dsimp only [thn, inBlk])
      | (refine AWP.exit ?_; try simp only [thn, inBlk, if_true, reduceIte, Nat.reduceEqDiff])
      | (refine AWP.ret ?_; try dsimp only [thn, inBlk])
      | (refine AWP.condT ?_ ?_; (focus (simp [go_sem, wc]; done)))
      | (refine AWP.condF ?_ ?_; (focus (simp [go_sem, wc]; done)))
      | (apply AWP.rE; (focus (simp [go_sem, wc]; exact ⟨rfl, rfl⟩)); try dsimp only [thn, inBlk])
      | fail)
    exact ⟨4 - c1, by omega, c1, by omega, rfl, by simp [go_sem], k8⟩
  have hw3 : ¬ (w : Int) < 2 := by omega
  obtain ⟨A, kA⟩ := pairc_iff.1 kt
  have c0 := kA.obj
  have pl := p_len (P := PF) (A := A)
  have gm0 : (pcells PF A)[0]? = _ := pc_m (P := PF) (A := A) (s := 0) (by omega)
  have gm1 : (pcells PF A)[1]? = _ := pc_m (P := PF) (A := A) (s := 1) (by omega)
  have gn0 : ∀ hh : 0 < (pcells PF A).length, (pcells PF A)[0] = ptr (A.ma 0) := fun hh => get_of gm0 hh
  have gn1 : ∀ hh : 1 < (pcells PF A).length, (pcells PF A)[1] = ptr (A.ma 1) := fun hh => get_of gm1 hh
  (repeat' first
    | refine AWP.seq ?_
    | refine AWP.block ?_
    | (refine AWP.skip ?_; try dsimp only [thn, inBlk])
    | (refine AWP.exit ?_; try simp only [thn, inBlk, if_true, reduceIte, Nat.reduceEqDiff])
    | (refine AWP.ret ?_; try dsimp only [thn, inBlk])
    | (refine AWP.condT ?_ ?_; (focus (simp [go_sem, hw3]; done)))
    | (refine AWP.condF ?_ ?_; (focus (simp [go_sem, hw3]; done)))
    | (apply AWP.rE; (focus (simp [go_sem, hw3]; exact ⟨rfl, rfl⟩)); try dsimp only [thn, inBlk])
    | fail)
  refine AWP.callE (by simp [go_sem, c0, pl, gn0, gn1]; exact ⟨rfl, rfl, rfl, rfl, rfl⟩) (by kernel_rfl) ?_
  refine (idle_calls (po_outM (s := 0) (by omega) kA)).mono ?_
  rw [fin2 0 (by omega)]
  rintro r h9 ⟨rfl, k9⟩
  have k10 := po_inM (s := 0) (by omega) (PF.o 0) (PF.i 0) k9
  rw [up_self, up_self] at k10
  have c10 := k10.obj
  refine awpL_toCall (by simp [go_sem, c10, pl, gn0, gn1]; exact ⟨rfl, rfl, rfl, rfl, rfl⟩) (by kernel_rfl) ?_
  refine (idle_calls (po_outM (s := 1) (by omega) k10)).mono ?_
  rw [fin2 1 (by omega)]
  rintro r h11 ⟨rfl, k11⟩
  refine awpL_restE (by simp [go_sem]; exact ⟨rfl, rfl⟩) ?_; try dsimp only [thn, inBlk]
  (repeat' first
    | refine AWP.seq ?_
    | refine AWP.block ?_
    | (refine AWP.skip ?_; try dsimp only [thn, inBlk])
    | (refine AWP.exit ?_; try simp only [thn, inBlk, if_true, reduceIte, Nat.reduceEqDiff])
    | (refine AWP.ret ?_; try dsimp only [thn, inBlk])
    | (refine AWP.condT ?_ ?_; (focus (simp [go_sem]; done)))
    | (refine AWP.condF ?_ ?_; (focus (simp [go_sem]; done)))
    | (apply AWP.rE; (focus (simp [go_sem]; exact ⟨rfl, rfl⟩)); try dsimp only [thn, inBlk])
    | fail)
  simp [bodyQ, thn, inBlk, resA, resV, go_sem]
end L18
