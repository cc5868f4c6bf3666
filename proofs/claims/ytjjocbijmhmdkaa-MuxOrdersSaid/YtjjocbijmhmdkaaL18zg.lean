import Derived.Test.YtjjocbijmhmdkaaL18zf
open Go Ab Go.Proofs
namespace L18
set_option autoImplicit false
set_option linter.unusedSimpArgs false
set_option linter.unusedVariables false
attribute [local irreducible] pcells

/-! ### A step of the two -/
def pout (P : PS) (s : Nat) : PS :=
  { P with o := up P.o s (mout (P.o s) (P.i s)).2.1, i := up P.i s (mout (P.o s) (P.i s)).2.2, way := up P.way (1 - s) (P.way (1 - s) ++ (mout (P.o s) (P.i s)).1) }
def pwrite (P : PS) (s c : Nat) (d : List UInt8) : PS :=
  { P with o := up P.o s (mwrite (P.o s) c d).2, wr := if (mwrite (P.o s) c d).1 = 0 then up P.wr (s * 4 + c) (P.wr (s * 4 + c) ++ d) else P.wr }
def pclose (P : PS) (s c : Nat) : PS :=
  { P with o := up P.o s (mclose (P.o s) c).2, cl := if (mclose (P.o s) c).1 = 0 then up P.cl (s * 4 + c) true else P.cl }
structure StepI (J : PS → Prop) : Prop where
  mi : ∀ P s, J P → s < 2 → MI (P.o s) (P.i s)
  get : ∀ P s c n, J P → s < 2 → c < 4 → ∃ t, P.wr ((1 - s) * 4 + c) = P.rd (s * 4 + c) ++ (mread (P.i s) c n).1 ++ t
  pass : ∀ s, s < 2 → PassI J s
  wl : ∀ P k, J P → (P.wr k).length ≤ 1000000
/-- All frames of a list behind those of another. -/
theorem frs_app {O : Old} {h : AHeap} {R : List Chunk} {v w : Value} {fs gs : List Fr} (k : Own O h (frs v fs :: frs w gs :: R)) (hc : fs.length + gs.length ≤ 1000000000) :
    ∃ a' cap' h', appendW Try.prog h 39 39 v w = some (.slice a' (fs.length + gs.length) cap', h') ∧ Own O h' (frs (.slice a' (fs.length + gs.length) cap') (fs ++ gs) :: R) := by
  obtain ⟨ac, ha, k1⟩ := brecs_iff.1 k
  obtain ⟨bc, hb, k2⟩ := brecs_iff.1 ((k1.perm (L' := frs w gs :: (os 30 2 v fs.length (rcells pre fs ac).flatten :: (rbods 5 fs ac ++ R))) (by
    refine (List.Perm.cons _ List.perm_middle).trans ?_
    exact List.Perm.swap _ _ _)))
  have hlen : ((rcells pre gs bc).flatten).length = gs.length * 2 := by
    rw [flat_length (sz := 2) (rcells_all (pre := pre) (fun x => rfl) bc), rcells_length hb]
  have hok : (rcells pre gs bc).flatten.all okCell = true := by
    rw [List.all_eq_true]
    intro x hx
    obtain ⟨y, hy, hxy⟩ := List.mem_flatten.1 hx
    obtain ⟨m, hm⟩ := List.mem_iff_getElem?.1 hy
    simp only [rcells, List.getElem?_zipWith] at hm
    split at hm
    · obtain rfl := Option.some.inj hm
      simp [rec1, pre] at hxy
      rcases hxy with rfl | rfl <;> rfl
    · cases hm
  have sl := k2.os_sl
  obtain ⟨v', h', e1, k3⟩ := Own.app (P := Try.prog) (m := gs.length) (t := 39) (xt := 39) (xs := (rcells pre gs bc).flatten) (xv := w) Try.underlying39 tsz30 tby30 tz30 nI39 (by omega) (by omega) rfl (k2.tail.perm (L' := os 30 2 v fs.length (rcells pre fs ac).flatten :: (rbods 5 gs bc ++ (rbods 5 fs ac ++ R))) List.perm_middle) sl.src hlen hok (by omega)
  obtain ⟨a', cap', rfl⟩ := k3.os_val
  refine ⟨a', cap', h', e1, brecs_iff.2 ⟨ac ++ bc, by simp [ha, hb], ?_⟩⟩
  have q1 : rcells pre (fs ++ gs) (ac ++ bc) = rcells pre fs ac ++ rcells pre gs bc := by
    simp only [rcells]; rw [List.zipWith_append ha.symm]
  have q2 : rbods 5 (fs ++ gs) (ac ++ bc) = rbods 5 fs ac ++ rbods 5 gs bc := by
    simp only [rbods]; rw [List.zipWith_append ha.symm]
  rw [q1, q2, List.flatten_append, List.length_append]
  refine k3.perm (List.Perm.cons _ ?_)
  rw [← List.append_assoc]
  exact List.Perm.append_right R List.perm_append_comm
theorem mout_len {o : List Hf} {i : List Ot} (mi : MI o i) : (mout o i).1.length ≤ 16392 := (mi.outN 4 (by omega)).2
def pstep (P : PS) (q : Op) (j : Nat) : PS :=
  let s := msk q.1.side 1
  let c := msk q.1.chan 3
  let kd := msk q.1.kind 7
  if kd ≤ 1 then pwrite P s c (txt (szO q) j) else if kd = 2 then pclose P s c else if kd ≤ 4 then pget P s c q.1.size else if kd = 5 then pout P s else ppass s (1 + msk q.1.size 3) P
set_option maxHeartbeats 16000000 in
theorem step_calls {O : Old} {h : AHeap} {R : List Chunk} {b j : Nat} {P : PS} {J : PS → Prop} (hJ : StepI J) (hP : J P) (k : Own O h (pairc b P :: R)) (hj : j ≤ 80) (q : Op) {a : Option Addr} {cap : Nat} :
    ACalls Try.prog 28 #[ptr b, opV q a cap, .int .i64 j] h fun r h' => r = .bool true ∧ Own O h' (pairc b (pstep P q j) :: R) := by
  refine ACalls.of_awp (args := [ptr b, opV q a cap, .int .i64 j]) (n := 110) Try.func28 rfl rfl (by show 3 ≤ 110; omega) ?_
  have kp := k.push (.row (orow q a cap) 32 6 true false)
  have cp := kp.obj
  have ws := msk_w q.1.side (m := 1) (by omega)
  have wc := msk_w q.1.chan (m := 3) (by omega)
  have wk := msk_w q.1.kind (m := 7) (by omega)
  have wz := msk_w q.1.size (m := 3) (by omega)
  have hsz := szO_le q
  obtain ⟨s, hs⟩ : ∃ s, s = msk q.1.side 1 := ⟨_, rfl⟩
  obtain ⟨c, hc⟩ : ∃ c, c = msk q.1.chan 3 := ⟨_, rfl⟩
  obtain ⟨kd, hkd⟩ : ∃ kd, kd = msk q.1.kind 7 := ⟨_, rfl⟩
  obtain ⟨z, hz⟩ : ∃ z, z = msk q.1.size 3 := ⟨_, rfl⟩
  have hs2 : s < 2 := by have := msk_le q.1.side 1; omega
  have hc4 : c < 4 := by have := msk_le q.1.chan 3; omega
  have hz3 : z ≤ 3 := by have := msk_le q.1.size 3; omega
  have hkd7 : kd ≤ 7 := by have := msk_le q.1.kind 7; omega
  have eS : pstep P q j = if kd ≤ 1 then pwrite P s c (txt (szO q) j) else if kd = 2 then pclose P s c else if kd ≤ 4 then pget P s c q.1.size else if kd = 5 then pout P s else ppass s (1 + z) P := by
    simp only [pstep, ← hs, ← hc, ← hkd, ← hz]
  rw [eS]
  rw [← hs] at ws
  rw [← hc] at wc
  rw [← hkd] at wk
  rw [← hz] at wz
  have mi := hJ.mi P s hP hs2
  have pb := (pbs hs2 hc4).b
  have hsi : (s : Int) < 2 := by omega
  have hci : (c : Int) < 4 := by omega
  obtain ⟨lc, hlc⟩ : ∃ lc, lc = h.next := ⟨_, rfl⟩
  obtain ⟨hp, hhp⟩ : ∃ hp, hp = h.push (.row (orow q a cap) 32 6 true false) := ⟨_, rfl⟩
  rw [← hlc] at kp cp
  rw [← hhp] at kp cp
  have cp0 : (h.push (.row (orow q a cap) 32 6 true false)).obj h.next = some (.row (orow q a cap) 32 6 true false) := by rw [← hhp, ← hlc]; exact cp
  (repeat' first
    | refine AWP.seq ?_
    | refine AWP.block ?_
    | (refine AWP.skip ?_; try dsimp only [thn, inBlk])
    | (refine AWP.exit ?_; try simp only [thn, inBlk, if_true, reduceIte, Nat.reduceEqDiff])
    | (refine AWP.ret ?_; try dsimp only [thn, inBlk])
    | (refine AWP.condT ?_ ?_; (focus (simp [go_sem, cp0, ws, wc, wk]; done)))
    | (refine AWP.condF ?_ ?_; (focus (simp [go_sem, cp0, ws, wc, wk]; done)))
    | (apply AWP.rE; (focus (simp [go_sem, cp0, ws, wc, wk]; exact ⟨rfl, rfl⟩)); try dsimp only [thn, inBlk])
    | (apply AWP.dE hmix [.n 0 [4], .n 1 [10], .n 2 [11], .n 3 [4], .n 4 [13], .n 5 [14], .n 6 [12], .n 7 [15]]; (focus kernel_rfl); (focus (simp [go_sem, cp0, ws, wc, wk]; exact ⟨rfl, rfl⟩)); try dsimp only [thn, inBlk])
    | (apply AWP.dE hmix [.n 0 [0], .n 1 [7], .n 2 [8], .n 3 [0], .n 4 [7], .n 5 [8], .n 6 [46], .n 7 [49], .n 8 [50, 47], .n 9 [51, 48], .n 10 [52], .n 11 [9], .n 13 [43], .n 14 [56], .n 15 [57, 44], .w 12 [53, 54] [], .n 16 [58, 45], .w 17 [59, 55] []]; (focus kernel_rfl); (focus (simp [go_sem, cp0, ws, wc, wk]; exact ⟨rfl, rfl⟩)); try dsimp only [thn, inBlk])
    | fail)
  refine AWP.cutT [0, 2, 4, 7, 8, 9, 18, 26] (fun s_ h'' => s_ = ⟨110, [(0, ptr b), (2, .int .i64 j), (4, ptr lc), (7, .int .i64 (s : Nat)), (8, .int .i64 (c : Nat)), (18, .int .i64 (kd : Nat)), (26, .bool (decide (kd ≤ 1)))]⟩ ∧ h'' = hp) ?_ ?_
  · by_cases hk : kd = 0
    · have hk0 : ((kd : Int) == 0) = true := by simp; omega
      have hk1 : decide (kd ≤ 1) = true := by simp; omega
      (repeat' first
        | refine AWP.seq ?_
        | refine AWP.block ?_
        | (refine AWP.skip ?_; try dsimp only [thn, inBlk])
        | (refine AWP.exit ?_; try simp only [thn, inBlk, if_true, reduceIte, Nat.reduceEqDiff])
        | (refine AWP.ret ?_; try dsimp only [thn, inBlk])
        | (refine AWP.condT ?_ ?_; (focus (simp [go_sem, hk0]; done)))
        | (refine AWP.condF ?_ ?_; (focus (simp [go_sem, hk0]; done)))
        | (apply AWP.rE; (focus (simp [go_sem, hk0]; exact ⟨rfl, rfl⟩)); try dsimp only [thn, inBlk])
        | (apply AWP.dE hmix [.n 0 [4], .n 1 [10], .n 2 [11], .n 3 [4], .n 4 [13], .n 5 [14], .n 6 [12], .n 7 [15]]; (focus kernel_rfl); (focus (simp [go_sem, hk0]; exact ⟨rfl, rfl⟩)); try dsimp only [thn, inBlk])
        | (apply AWP.dE hmix [.n 0 [0], .n 1 [7], .n 2 [8], .n 3 [0], .n 4 [7], .n 5 [8], .n 6 [46], .n 7 [49], .n 8 [50, 47], .n 9 [51, 48], .n 10 [52], .n 11 [9], .n 13 [43], .n 14 [56], .n 15 [57, 44], .w 12 [53, 54] [], .n 16 [58, 45], .w 17 [59, 55] []]; (focus kernel_rfl); (focus (simp [go_sem, hk0]; exact ⟨rfl, rfl⟩)); try dsimp only [thn, inBlk])
        | fail)
      exact ⟨by simp [go_sem, hk1, hlc, hk], hhp.symm⟩
    · have hk0 : ((kd : Int) == 0) = false := by simp; omega
      have hk1 : ((kd : Int) == 1) = decide (kd ≤ 1) := by rw [Bool.eq_iff_iff]; simp; omega
      (repeat' first
        | refine AWP.seq ?_
        | refine AWP.block ?_
        | (refine AWP.skip ?_; try dsimp only [thn, inBlk])
        | (refine AWP.exit ?_; try simp only [thn, inBlk, if_true, reduceIte, Nat.reduceEqDiff])
        | (refine AWP.ret ?_; try dsimp only [thn, inBlk])
        | (refine AWP.condT ?_ ?_; (focus (simp [go_sem, hk0, hk1]; done)))
        | (refine AWP.condF ?_ ?_; (focus (simp [go_sem, hk0, hk1]; done)))
        | (apply AWP.rE; (focus (simp [go_sem, hk0, hk1]; exact ⟨rfl, rfl⟩)); try dsimp only [thn, inBlk])
        | (apply AWP.dE hmix [.n 0 [4], .n 1 [10], .n 2 [11], .n 3 [4], .n 4 [13], .n 5 [14], .n 6 [12], .n 7 [15]]; (focus kernel_rfl); (focus (simp [go_sem, hk0, hk1]; exact ⟨rfl, rfl⟩)); try dsimp only [thn, inBlk])
        | (apply AWP.dE hmix [.n 0 [0], .n 1 [7], .n 2 [8], .n 3 [0], .n 4 [7], .n 5 [8], .n 6 [46], .n 7 [49], .n 8 [50, 47], .n 9 [51, 48], .n 10 [52], .n 11 [9], .n 13 [43], .n 14 [56], .n 15 [57, 44], .w 12 [53, 54] [], .n 16 [58, 45], .w 17 [59, 55] []]; (focus kernel_rfl); (focus (simp [go_sem, hk0, hk1]; exact ⟨rfl, rfl⟩)); try dsimp only [thn, inBlk])
        | fail)
      exact ⟨by simp [go_sem, hlc], hhp.symm⟩
  rintro s_ h5 ⟨rfl, rfl⟩
  obtain ⟨A, kA⟩ := pairc_iff.1 kp.b1
  have c0 := kA.obj
  have pl := p_len (P := P) (A := A)
  have gm := pc_m (P := P) (A := A) hs2
  by_cases hkw : kd ≤ 1
  · rw [if_pos hkw]
    (repeat' first
      | refine AWP.seq ?_
      | refine AWP.block ?_
      | (refine AWP.skip ?_; try dsimp only [thn, inBlk])
      | (refine AWP.exit ?_; try simp only [thn, inBlk, if_true, reduceIte, Nat.reduceEqDiff])
      | (refine AWP.ret ?_; try dsimp only [thn, inBlk])
      | (refine AWP.condT ?_ ?_; (focus (simp [go_sem, hkw, cp]; done)))
      | (refine AWP.condF ?_ ?_; (focus (simp [go_sem, hkw, cp]; done)))
      | (apply AWP.rE; (focus (simp [go_sem, hkw, cp]; exact ⟨rfl, rfl⟩)); try dsimp only [thn, inBlk])
      | (apply AWP.dE hmix [.n 0 [4], .n 1 [10], .n 2 [11], .n 3 [4], .n 4 [13], .n 5 [14], .n 6 [12], .n 7 [15]]; (focus kernel_rfl); (focus (simp [go_sem, hkw, cp]; exact ⟨rfl, rfl⟩)); try dsimp only [thn, inBlk])
      | (apply AWP.dE hmix [.n 0 [0], .n 1 [7], .n 2 [8], .n 3 [0], .n 4 [7], .n 5 [8], .n 6 [46], .n 7 [49], .n 8 [50, 47], .n 9 [51, 48], .n 10 [52], .n 11 [9], .n 13 [43], .n 14 [56], .n 15 [57, 44], .w 12 [53, 54] [], .n 16 [58, 45], .w 17 [59, 55] []]; (focus kernel_rfl); (focus (simp [go_sem, hkw, cp]; exact ⟨rfl, rfl⟩)); try dsimp only [thn, inBlk])
      | fail)
    refine AWP.callE (by simp [go_sem, cp]; exact ⟨rfl, rfl, rfl, rfl, rfl⟩) (by kernel_rfl) ?_
    refine (size_calls kA q).mono ?_
    rintro r h6 ⟨rfl, k6⟩
    refine awpL_toCall (by simp [go_sem]; exact ⟨rfl, rfl, rfl, rfl, rfl⟩) (by kernel_rfl) ?_
    refine (text_calls k6 (n := szO q) (fr := j) (by omega) (by omega)).mono ?_
    rintro r h7 ⟨ta, tc, rfl, k7⟩
    refine awpL_restE (by simp [go_sem]; exact ⟨rfl, rfl⟩) ?_; try dsimp only [thn, inBlk]
    have c7 := k7.b1.obj
    obtain ⟨d, hd⟩ : ∃ d, d = txt (szO q) j := ⟨_, rfl⟩
    have hdl : d.length = szO q := by rw [hd, txt_len]
    obtain ⟨N, hN⟩ : ∃ N, N = szO q := ⟨_, rfl⟩
    rw [← hd] at k7 ⊢
    rw [← hN] at k7 hdl ⊢
    obtain ⟨PW, hPW⟩ : ∃ PW, PW = pwrite P s c d := ⟨_, rfl⟩
    rw [← hPW]
    have k8 := po_outM hs2 (k7.perm (((List.perm_middle (l₁ := cell b (prow P A) :: psubs P A)).symm)))
    (repeat' first
      | refine AWP.seq ?_
      | refine AWP.block ?_
      | (refine AWP.skip ?_; try dsimp only [thn, inBlk])
      | (refine AWP.exit ?_; try simp only [thn, inBlk, if_true, reduceIte, Nat.reduceEqDiff])
      | (refine AWP.ret ?_; try dsimp only [thn, inBlk])
      | (refine AWP.condT ?_ ?_; (focus (simp [go_sem]; done)))
      | (refine AWP.condF ?_ ?_; (focus (simp [go_sem]; done)))
      | (apply AWP.rE; (focus (simp [go_sem]; exact ⟨rfl, rfl⟩)); try dsimp only [thn, inBlk])
      | (apply AWP.dE hmix [.n 0 [4], .n 1 [10], .n 2 [11], .n 3 [4], .n 4 [13], .n 5 [14], .n 6 [12], .n 7 [15]]; (focus kernel_rfl); (focus (simp [go_sem]; exact ⟨rfl, rfl⟩)); try dsimp only [thn, inBlk])
      | (apply AWP.dE hmix [.n 0 [0], .n 1 [7], .n 2 [8], .n 3 [0], .n 4 [7], .n 5 [8], .n 6 [46], .n 7 [49], .n 8 [50, 47], .n 9 [51, 48], .n 10 [52], .n 11 [9], .n 13 [43], .n 14 [56], .n 15 [57, 44], .w 12 [53, 54] [], .n 16 [58, 45], .w 17 [59, 55] []]; (focus kernel_rfl); (focus (simp [go_sem]; exact ⟨rfl, rfl⟩)); try dsimp only [thn, inBlk])
      | fail)
    refine AWP.callE (by simp [go_sem, c7, pl, gm, pb, hsi, hci]; exact ⟨rfl, rfl, rfl, rfl, rfl⟩) (by kernel_rfl) ?_
    have hdl1 : d.length ≤ 8191 := by omega
    have T := write_calls (v := .slice ta N tc) (d := d) k8 mi c (fun hh kk => kk.tail.rest.ob_bytes) (by omega)
    refine T.mono ?_
    rintro r h9 ⟨rfl, k9⟩
    refine awpL_restE (by simp [go_sem]; exact ⟨rfl, rfl⟩) ?_; try dsimp only [thn, inBlk]
    have k10 := po_inM hs2 (mwrite (P.o s) c d).2 (P.i s) k9
    rw [up_self] at k10
    by_cases hok : (mwrite (P.o s) c d).1 = 0
    rotate_left
    · have hok' : ((mwrite (P.o s) c d).1 == 0) = false := by simpa using hok
      have eP : PW = { P with o := up P.o s (mwrite (P.o s) c d).2, i := P.i } := by rw [hPW, pwrite, if_neg hok]
      (repeat' first
        | refine AWP.seq ?_
        | refine AWP.block ?_
        | (refine AWP.skip ?_; try dsimp only [thn, inBlk])
        | (refine AWP.exit ?_; try simp only [thn, inBlk, if_true, reduceIte, Nat.reduceEqDiff])
        | (refine AWP.ret ?_; try dsimp only [thn, inBlk])
        | (refine AWP.condT ?_ ?_; (focus (simp [go_sem, hok']; done)))
        | (refine AWP.condF ?_ ?_; (focus (simp [go_sem, hok']; done)))
        | (apply AWP.rE; (focus (simp [go_sem, hok']; exact ⟨rfl, rfl⟩)); try dsimp only [thn, inBlk])
        | (apply AWP.dE hmix [.n 0 [4], .n 1 [10], .n 2 [11], .n 3 [4], .n 4 [13], .n 5 [14], .n 6 [12], .n 7 [15]]; (focus kernel_rfl); (focus (simp [go_sem, hok']; exact ⟨rfl, rfl⟩)); try dsimp only [thn, inBlk])
        | (apply AWP.dE hmix [.n 0 [0], .n 1 [7], .n 2 [8], .n 3 [0], .n 4 [7], .n 5 [8], .n 6 [46], .n 7 [49], .n 8 [50, 47], .n 9 [51, 48], .n 10 [52], .n 11 [9], .n 13 [43], .n 14 [56], .n 15 [57, 44], .w 12 [53, 54] [], .n 16 [58, 45], .w 17 [59, 55] []]; (focus kernel_rfl); (focus (simp [go_sem, hok']; exact ⟨rfl, rfl⟩)); try dsimp only [thn, inBlk])
        | fail)
      simp [bodyQ, thn, inBlk, resA, resV, go_sem]
      rw [eP]
      exact (pairc_iff.2 ⟨A, k10⟩).d2.d1
    rw [hok]
    obtain ⟨P1, hP1⟩ : ∃ P1 : PS, P1 = { P with o := up P.o s (mwrite (P.o s) c d).2 } := ⟨_, rfl⟩
    have k11 : Own O h9 (cell b (prow P1 A) :: (psubs P1 A ++ (ob 5 (.slice ta N tc) d :: cell lc (.row (orow q a cap) 32 6 true false) :: R))) := by rw [hP1]; exact k10
    have k12 := po_out (j := 4 + (s * 4 + c)) (by omega) k11
    rw [ps_wr (by omega)] at k12
    have c12 := k12.tail.obj
    have pl1 := p_len (P := P1) (A := A)
    have gw := gc_wr (P := P1) (A := A) hs2 hc4
    have e1w : P1.wr = P.wr := by rw [hP1]
    rw [e1w] at k12 gw
    have hwl := hJ.wl P (s * 4 + c) hP
    obtain ⟨a5, c5, h13, e5, k13⟩ := k12.appB (P := Try.prog) (t := 28) (xt := 28) (xv := .slice ta N tc) (xs := d) Try.underlying28 tsz5 tby5 tz5 nI28 k12.tail.tail.rest.ob_bytes.src (by omega)
    have c13 := k13.tail.obj
    have hlen : (P.wr (s * 4 + c)).length + N = (P.wr (s * 4 + c) ++ d).length := by simp [hdl]
    rw [hdl] at e5 k13
    obtain ⟨P2, hP2⟩ : ∃ P2 : PS, P2 = { P1 with wr := up P1.wr (s * 4 + c) (P.wr (s * 4 + c) ++ d) } := ⟨_, rfl⟩
    obtain ⟨A2, hA2⟩ : ∃ A2 : Ad, A2 = { A with pw := up A.pw (s * 4 + c) (a5, c5) } := ⟨_, rfl⟩
    have e6 : (pcells P1 A).set (4 + s * 4 + c) (.slice a5 ((P.wr (s * 4 + c)).length + N) c5) = pcells P2 A2 := by
      rw [Nat.add_assoc, pset_wr (by omega) (P.wr (s * 4 + c) ++ d) hlen, hP2, hA2]
    have k14 := k13.b1.set (prow P2 A2)
    have k15 : Own O (h13.set b (prow P2 A2)) (cell b (prow P2 A2) :: (psubs P2 A2 ++ (ob 5 (.slice ta N tc) d :: cell lc (.row (orow q a cap) 32 6 true false) :: R))) := by
      refine po_in (P := P1) (A := A) (j := 4 + (s * 4 + c)) (by omega) ?_ ?_
      rotate_left
      · rw [ps_wr (by omega)]
        have e1 : P2.wr (s * 4 + c) = P.wr (s * 4 + c) ++ d := by rw [hP2]; exact up_same _ _ _
        have e2 : A2.pw (s * 4 + c) = (a5, c5) := by rw [hA2]; exact up_same _ _ _
        rw [e1, e2, ← hlen]
        exact k14.b1
      · rw [hP2, hA2]; exact pk_wr (by omega) _ _
    have eP : PW = P2 := by rw [hPW, pwrite, if_pos hok, hP2, hP1]
    (repeat' first
      | refine AWP.seq ?_
      | refine AWP.block ?_
      | (refine AWP.skip ?_; try dsimp only [thn, inBlk])
      | (refine AWP.exit ?_; try simp only [thn, inBlk, if_true, reduceIte, Nat.reduceEqDiff])
      | (refine AWP.ret ?_; try dsimp only [thn, inBlk])
      | (refine AWP.condT ?_ ?_; (focus (simp [go_sem, c12, pl1, gw, pb, hsi, hci, e5, c13, e6]; done)))
      | (refine AWP.condF ?_ ?_; (focus (simp [go_sem, c12, pl1, gw, pb, hsi, hci, e5, c13, e6]; done)))
      | (apply AWP.rE; (focus (simp [go_sem, c12, pl1, gw, pb, hsi, hci, e5, c13, e6]; exact ⟨rfl, rfl⟩)); try dsimp only [thn, inBlk])
      | (apply AWP.dE hmix [.n 0 [4], .n 1 [10], .n 2 [11], .n 3 [4], .n 4 [13], .n 5 [14], .n 6 [12], .n 7 [15]]; (focus kernel_rfl); (focus (simp [go_sem, c12, pl1, gw, pb, hsi, hci, e5, c13, e6]; exact ⟨rfl, rfl⟩)); try dsimp only [thn, inBlk])
      | (apply AWP.dE hmix [.n 0 [0], .n 1 [7], .n 2 [8], .n 3 [0], .n 4 [7], .n 5 [8], .n 6 [46], .n 7 [49], .n 8 [50, 47], .n 9 [51, 48], .n 10 [52], .n 11 [9], .n 13 [43], .n 14 [56], .n 15 [57, 44], .w 12 [53, 54] [], .n 16 [58, 45], .w 17 [59, 55] []]; (focus kernel_rfl); (focus (simp [go_sem, c12, pl1, gw, pb, hsi, hci, e5, c13, e6]; exact ⟨rfl, rfl⟩)); try dsimp only [thn, inBlk])
      | fail)
    simp [bodyQ, thn, inBlk, resA, resV, go_sem]
    rw [eP]
    exact (pairc_iff.2 ⟨A2, k15⟩).d2.d1
  rw [if_neg hkw]
  by_cases hk2 : kd = 2
  · have hk2' : ((kd : Int) == 2) = true := by simp; omega
    rw [if_pos hk2]
    obtain ⟨PW, hPW⟩ : ∃ PW, PW = pclose P s c := ⟨_, rfl⟩
    rw [← hPW]
    (repeat' first
      | refine AWP.seq ?_
      | refine AWP.block ?_
      | (refine AWP.skip ?_; try dsimp only [thn, inBlk])
      | (refine AWP.exit ?_; try simp only [thn, inBlk, if_true, reduceIte, Nat.reduceEqDiff])
      | (refine AWP.ret ?_; try dsimp only [thn, inBlk])
      | (refine AWP.condT ?_ ?_; (focus (simp [go_sem, hkw, hk2']; done)))
      | (refine AWP.condF ?_ ?_; (focus (simp [go_sem, hkw, hk2']; done)))
      | (apply AWP.rE; (focus (simp [go_sem, hkw, hk2']; exact ⟨rfl, rfl⟩)); try dsimp only [thn, inBlk])
      | (apply AWP.dE hmix [.n 0 [4], .n 1 [10], .n 2 [11], .n 3 [4], .n 4 [13], .n 5 [14], .n 6 [12], .n 7 [15]]; (focus kernel_rfl); (focus (simp [go_sem, hkw, hk2']; exact ⟨rfl, rfl⟩)); try dsimp only [thn, inBlk])
      | (apply AWP.dE hmix [.n 0 [0], .n 1 [7], .n 2 [8], .n 3 [0], .n 4 [7], .n 5 [8], .n 6 [46], .n 7 [49], .n 8 [50, 47], .n 9 [51, 48], .n 10 [52], .n 11 [9], .n 13 [43], .n 14 [56], .n 15 [57, 44], .w 12 [53, 54] [], .n 16 [58, 45], .w 17 [59, 55] []]; (focus kernel_rfl); (focus (simp [go_sem, hkw, hk2']; exact ⟨rfl, rfl⟩)); try dsimp only [thn, inBlk])
      | fail)
    refine AWP.callE (by simp [go_sem, c0, pl, gm, pb, hsi, hci]; exact ⟨rfl, rfl, rfl, rfl, rfl⟩) (by kernel_rfl) ?_
    refine (close_calls (po_outM hs2 kA) c).mono ?_
    rintro r h9 ⟨rfl, k9⟩
    refine awpL_restE (by simp [go_sem]; exact ⟨rfl, rfl⟩) ?_; try dsimp only [thn, inBlk]
    have k10 := po_inM hs2 (mclose (P.o s) c).2 (P.i s) k9
    rw [up_self] at k10
    by_cases hok : (mclose (P.o s) c).1 = 0
    rotate_left
    · have hok' : ((mclose (P.o s) c).1 == 0) = false := by simpa using hok
      have eP : PW = { P with o := up P.o s (mclose (P.o s) c).2, i := P.i } := by rw [hPW, pclose, if_neg hok]
      (repeat' first
        | refine AWP.seq ?_
        | refine AWP.block ?_
        | (refine AWP.skip ?_; try dsimp only [thn, inBlk])
        | (refine AWP.exit ?_; try simp only [thn, inBlk, if_true, reduceIte, Nat.reduceEqDiff])
        | (refine AWP.ret ?_; try dsimp only [thn, inBlk])
        | (refine AWP.condT ?_ ?_; (focus (simp [go_sem, hok']; done)))
        | (refine AWP.condF ?_ ?_; (focus (simp [go_sem, hok']; done)))
        | (apply AWP.rE; (focus (simp [go_sem, hok']; exact ⟨rfl, rfl⟩)); try dsimp only [thn, inBlk])
        | (apply AWP.dE hmix [.n 0 [4], .n 1 [10], .n 2 [11], .n 3 [4], .n 4 [13], .n 5 [14], .n 6 [12], .n 7 [15]]; (focus kernel_rfl); (focus (simp [go_sem, hok']; exact ⟨rfl, rfl⟩)); try dsimp only [thn, inBlk])
        | (apply AWP.dE hmix [.n 0 [0], .n 1 [7], .n 2 [8], .n 3 [0], .n 4 [7], .n 5 [8], .n 6 [46], .n 7 [49], .n 8 [50, 47], .n 9 [51, 48], .n 10 [52], .n 11 [9], .n 13 [43], .n 14 [56], .n 15 [57, 44], .w 12 [53, 54] [], .n 16 [58, 45], .w 17 [59, 55] []]; (focus kernel_rfl); (focus (simp [go_sem, hok']; exact ⟨rfl, rfl⟩)); try dsimp only [thn, inBlk])
        | fail)
      simp [bodyQ, thn, inBlk, resA, resV, go_sem]
      rw [eP]
      exact (pairc_iff.2 ⟨A, k10⟩).d1
    rw [hok]
    obtain ⟨P1, hP1⟩ : ∃ P1 : PS, P1 = { P with o := up P.o s (mclose (P.o s) c).2 } := ⟨_, rfl⟩
    have k11 : Own O h9 (cell b (prow P1 A) :: (psubs P1 A ++ (cell lc (.row (orow q a cap) 32 6 true false) :: R))) := by rw [hP1]; exact k10
    have c11 := k11.obj
    have pl1 := p_len (P := P1) (A := A)
    obtain ⟨P2, hP2⟩ : ∃ P2 : PS, P2 = { P1 with cl := up P1.cl (s * 4 + c) true } := ⟨_, rfl⟩
    have e6 : (pcells P1 A).set (20 + s * 4 + c) (.bool true) = pcells P2 A := by
      rw [Nat.add_assoc, pset_cl (by omega) true, hP2]
    have k14 := k11.set (prow P2 A)
    have eP : PW = P2 := by rw [hPW, pclose, if_pos hok, hP2, hP1]
    have eps : psubs P2 A = psubs P1 A := by rw [hP2]; rfl
    rw [← eps] at k14
    (repeat' first
      | refine AWP.seq ?_
      | refine AWP.block ?_
      | (refine AWP.skip ?_; try dsimp only [thn, inBlk])
      | (refine AWP.exit ?_; try simp only [thn, inBlk, if_true, reduceIte, Nat.reduceEqDiff])
      | (refine AWP.ret ?_; try dsimp only [thn, inBlk])
      | (refine AWP.condT ?_ ?_; (focus (simp [go_sem, c11, pl1, pb, hsi, hci, e6]; done)))
      | (refine AWP.condF ?_ ?_; (focus (simp [go_sem, c11, pl1, pb, hsi, hci, e6]; done)))
      | (apply AWP.rE; (focus (simp [go_sem, c11, pl1, pb, hsi, hci, e6]; exact ⟨rfl, rfl⟩)); try dsimp only [thn, inBlk])
      | (apply AWP.dE hmix [.n 0 [4], .n 1 [10], .n 2 [11], .n 3 [4], .n 4 [13], .n 5 [14], .n 6 [12], .n 7 [15]]; (focus kernel_rfl); (focus (simp [go_sem, c11, pl1, pb, hsi, hci, e6]; exact ⟨rfl, rfl⟩)); try dsimp only [thn, inBlk])
      | (apply AWP.dE hmix [.n 0 [0], .n 1 [7], .n 2 [8], .n 3 [0], .n 4 [7], .n 5 [8], .n 6 [46], .n 7 [49], .n 8 [50, 47], .n 9 [51, 48], .n 10 [52], .n 11 [9], .n 13 [43], .n 14 [56], .n 15 [57, 44], .w 12 [53, 54] [], .n 16 [58, 45], .w 17 [59, 55] []]; (focus kernel_rfl); (focus (simp [go_sem, c11, pl1, pb, hsi, hci, e6]; exact ⟨rfl, rfl⟩)); try dsimp only [thn, inBlk])
      | fail)
    simp [bodyQ, thn, inBlk, resA, resV, go_sem]
    rw [eP]
    exact (pairc_iff.2 ⟨A, k14⟩).d1
  rw [if_neg hk2]
  have hk2' : ((kd : Int) == 2) = false := by simp; omega
  (repeat' first
    | refine AWP.seq ?_
    | refine AWP.block ?_
    | (refine AWP.skip ?_; try dsimp only [thn, inBlk])
    | (refine AWP.exit ?_; try simp only [thn, inBlk, if_true, reduceIte, Nat.reduceEqDiff])
    | (refine AWP.ret ?_; try dsimp only [thn, inBlk])
    | (refine AWP.condT ?_ ?_; (focus (simp [go_sem, hkw, hk2']; done)))
    | (refine AWP.condF ?_ ?_; (focus (simp [go_sem, hkw, hk2']; done)))
    | (apply AWP.rE; (focus (simp [go_sem, hkw, hk2']; exact ⟨rfl, rfl⟩)); try dsimp only [thn, inBlk])
    | (apply AWP.dE hmix [.n 0 [4], .n 1 [10], .n 2 [11], .n 3 [4], .n 4 [13], .n 5 [14], .n 6 [12], .n 7 [15]]; (focus kernel_rfl); (focus (simp [go_sem, hkw, hk2']; exact ⟨rfl, rfl⟩)); try dsimp only [thn, inBlk])
    | (apply AWP.dE hmix [.n 0 [0], .n 1 [7], .n 2 [8], .n 3 [0], .n 4 [7], .n 5 [8], .n 6 [46], .n 7 [49], .n 8 [50, 47], .n 9 [51, 48], .n 10 [52], .n 11 [9], .n 13 [43], .n 14 [56], .n 15 [57, 44], .w 12 [53, 54] [], .n 16 [58, 45], .w 17 [59, 55] []]; (focus kernel_rfl); (focus (simp [go_sem, hkw, hk2']; exact ⟨rfl, rfl⟩)); try dsimp only [thn, inBlk])
    | fail)
  refine AWP.cutT [0, 2, 4, 7, 8, 18, 78] (fun s_ h'' => s_ = ⟨110, [(0, ptr b), (2, .int .i64 j), (4, ptr lc), (7, .int .i64 (s : Nat)), (8, .int .i64 (c : Nat)), (18, .int .i64 (kd : Nat)), (78, .bool (decide (kd ≤ 4)))]⟩ ∧ h'' = h5) ?_ ?_
  · by_cases hk : kd = 3
    · have hk0 : ((kd : Int) == 3) = true := by simp; omega
      (repeat' first
        | refine AWP.seq ?_
        | refine AWP.block ?_
        | (refine AWP.skip ?_; try dsimp only [thn, inBlk])
        | (refine AWP.exit ?_; try simp only [thn, inBlk, if_true, reduceIte, Nat.reduceEqDiff])
        | (refine AWP.ret ?_; try dsimp only [thn, inBlk])
        | (refine AWP.condT ?_ ?_; (focus (simp [go_sem, hk0]; done)))
        | (refine AWP.condF ?_ ?_; (focus (simp [go_sem, hk0]; done)))
        | (apply AWP.rE; (focus (simp [go_sem, hk0]; exact ⟨rfl, rfl⟩)); try dsimp only [thn, inBlk])
        | (apply AWP.dE hmix [.n 0 [4], .n 1 [10], .n 2 [11], .n 3 [4], .n 4 [13], .n 5 [14], .n 6 [12], .n 7 [15]]; (focus kernel_rfl); (focus (simp [go_sem, hk0]; exact ⟨rfl, rfl⟩)); try dsimp only [thn, inBlk])
        | (apply AWP.dE hmix [.n 0 [0], .n 1 [7], .n 2 [8], .n 3 [0], .n 4 [7], .n 5 [8], .n 6 [46], .n 7 [49], .n 8 [50, 47], .n 9 [51, 48], .n 10 [52], .n 11 [9], .n 13 [43], .n 14 [56], .n 15 [57, 44], .w 12 [53, 54] [], .n 16 [58, 45], .w 17 [59, 55] []]; (focus kernel_rfl); (focus (simp [go_sem, hk0]; exact ⟨rfl, rfl⟩)); try dsimp only [thn, inBlk])
        | fail)
      exact ⟨by simp [go_sem, hk], rfl⟩
    · have hk0 : ((kd : Int) == 3) = false := by simp; omega
      have hk1 : ((kd : Int) == 4) = decide (kd ≤ 4) := by rw [Bool.eq_iff_iff]; simp; omega
      (repeat' first
        | refine AWP.seq ?_
        | refine AWP.block ?_
        | (refine AWP.skip ?_; try dsimp only [thn, inBlk])
        | (refine AWP.exit ?_; try simp only [thn, inBlk, if_true, reduceIte, Nat.reduceEqDiff])
        | (refine AWP.ret ?_; try dsimp only [thn, inBlk])
        | (refine AWP.condT ?_ ?_; (focus (simp [go_sem, hk0, hk1]; done)))
        | (refine AWP.condF ?_ ?_; (focus (simp [go_sem, hk0, hk1]; done)))
        | (apply AWP.rE; (focus (simp [go_sem, hk0, hk1]; exact ⟨rfl, rfl⟩)); try dsimp only [thn, inBlk])
        | (apply AWP.dE hmix [.n 0 [4], .n 1 [10], .n 2 [11], .n 3 [4], .n 4 [13], .n 5 [14], .n 6 [12], .n 7 [15]]; (focus kernel_rfl); (focus (simp [go_sem, hk0, hk1]; exact ⟨rfl, rfl⟩)); try dsimp only [thn, inBlk])
        | (apply AWP.dE hmix [.n 0 [0], .n 1 [7], .n 2 [8], .n 3 [0], .n 4 [7], .n 5 [8], .n 6 [46], .n 7 [49], .n 8 [50, 47], .n 9 [51, 48], .n 10 [52], .n 11 [9], .n 13 [43], .n 14 [56], .n 15 [57, 44], .w 12 [53, 54] [], .n 16 [58, 45], .w 17 [59, 55] []]; (focus kernel_rfl); (focus (simp [go_sem, hk0, hk1]; exact ⟨rfl, rfl⟩)); try dsimp only [thn, inBlk])
        | fail)
      exact ⟨by simp [go_sem], rfl⟩
  rintro s_ h6 ⟨rfl, rfl⟩
  by_cases hk4 : kd ≤ 4
  · rw [if_pos hk4]
    (repeat' first
      | refine AWP.seq ?_
      | refine AWP.block ?_
      | (refine AWP.skip ?_; try dsimp only [thn, inBlk])
      | (refine AWP.exit ?_; try simp only [thn, inBlk, if_true, reduceIte, Nat.reduceEqDiff])
      | (refine AWP.ret ?_; try dsimp only [thn, inBlk])
      | (refine AWP.condT ?_ ?_; (focus (simp [go_sem, hk4, cp]; done)))
      | (refine AWP.condF ?_ ?_; (focus (simp [go_sem, hk4, cp]; done)))
      | (apply AWP.rE; (focus (simp [go_sem, hk4, cp]; exact ⟨rfl, rfl⟩)); try dsimp only [thn, inBlk])
      | (apply AWP.dE hmix [.n 0 [4], .n 1 [10], .n 2 [11], .n 3 [4], .n 4 [13], .n 5 [14], .n 6 [12], .n 7 [15]]; (focus kernel_rfl); (focus (simp [go_sem, hk4, cp]; exact ⟨rfl, rfl⟩)); try dsimp only [thn, inBlk])
      | (apply AWP.dE hmix [.n 0 [0], .n 1 [7], .n 2 [8], .n 3 [0], .n 4 [7], .n 5 [8], .n 6 [46], .n 7 [49], .n 8 [50, 47], .n 9 [51, 48], .n 10 [52], .n 11 [9], .n 13 [43], .n 14 [56], .n 15 [57, 44], .w 12 [53, 54] [], .n 16 [58, 45], .w 17 [59, 55] []]; (focus kernel_rfl); (focus (simp [go_sem, hk4, cp]; exact ⟨rfl, rfl⟩)); try dsimp only [thn, inBlk])
      | fail)
    refine AWP.callE (by simp [go_sem, cp]; exact ⟨rfl, rfl, rfl, rfl, rfl⟩) (by kernel_rfl) ?_
    refine (get_calls kp.b1 mi hs2 hc4 q.1.size (hJ.get P s c q.1.size hP hs2 hc4) (by have := hJ.wl P ((1 - s) * 4 + c) hP; omega)).mono ?_
    rintro r h7 ⟨rfl, k7⟩
    refine awpL_restE (by simp [go_sem]; exact ⟨rfl, rfl⟩) ?_; try dsimp only [thn, inBlk]
    (repeat' first
      | refine AWP.seq ?_
      | refine AWP.block ?_
      | (refine AWP.skip ?_; try dsimp only [thn, inBlk])
      | (refine AWP.exit ?_; try simp only [thn, inBlk, if_true, reduceIte, Nat.reduceEqDiff])
      | (refine AWP.ret ?_; try dsimp only [thn, inBlk])
      | (refine AWP.condT ?_ ?_; (focus (simp [go_sem]; done)))
      | (refine AWP.condF ?_ ?_; (focus (simp [go_sem]; done)))
      | (apply AWP.rE; (focus (simp [go_sem]; exact ⟨rfl, rfl⟩)); try dsimp only [thn, inBlk])
      | (apply AWP.dE hmix [.n 0 [4], .n 1 [10], .n 2 [11], .n 3 [4], .n 4 [13], .n 5 [14], .n 6 [12], .n 7 [15]]; (focus kernel_rfl); (focus (simp [go_sem]; exact ⟨rfl, rfl⟩)); try dsimp only [thn, inBlk])
      | (apply AWP.dE hmix [.n 0 [0], .n 1 [7], .n 2 [8], .n 3 [0], .n 4 [7], .n 5 [8], .n 6 [46], .n 7 [49], .n 8 [50, 47], .n 9 [51, 48], .n 10 [52], .n 11 [9], .n 13 [43], .n 14 [56], .n 15 [57, 44], .w 12 [53, 54] [], .n 16 [58, 45], .w 17 [59, 55] []]; (focus kernel_rfl); (focus (simp [go_sem]; exact ⟨rfl, rfl⟩)); try dsimp only [thn, inBlk])
      | fail)
    simp [bodyQ, thn, inBlk, resA, resV, go_sem]
    exact k7.d1
  rw [if_neg hk4]
  by_cases hk5 : kd = 5
  rotate_left
  · rw [if_neg hk5]
    have hk5' : ((kd : Int) == 5) = false := by simp; omega
    have wz1 : IntKind.i64.wrap (1 + (z : Int)) = ((1 + z : Nat) : Int) := by rw [wI64 (by omega) (by omega)]; omega
    (repeat' first
      | refine AWP.seq ?_
      | refine AWP.block ?_
      | (refine AWP.skip ?_; try dsimp only [thn, inBlk])
      | (refine AWP.exit ?_; try simp only [thn, inBlk, if_true, reduceIte, Nat.reduceEqDiff])
      | (refine AWP.ret ?_; try dsimp only [thn, inBlk])
      | (refine AWP.condT ?_ ?_; (focus (simp [go_sem, hk4, hk5', cp]; done)))
      | (refine AWP.condF ?_ ?_; (focus (simp [go_sem, hk4, hk5', cp]; done)))
      | (apply AWP.rE; (focus (simp [go_sem, hk4, hk5', cp]; exact ⟨rfl, rfl⟩)); try dsimp only [thn, inBlk])
      | (apply AWP.dE hmix [.n 0 [4], .n 1 [10], .n 2 [11], .n 3 [4], .n 4 [13], .n 5 [14], .n 6 [12], .n 7 [15]]; (focus kernel_rfl); (focus (simp [go_sem, hk4, hk5', cp]; exact ⟨rfl, rfl⟩)); try dsimp only [thn, inBlk])
      | (apply AWP.dE hmix [.n 0 [0], .n 1 [7], .n 2 [8], .n 3 [0], .n 4 [7], .n 5 [8], .n 6 [46], .n 7 [49], .n 8 [50, 47], .n 9 [51, 48], .n 10 [52], .n 11 [9], .n 13 [43], .n 14 [56], .n 15 [57, 44], .w 12 [53, 54] [], .n 16 [58, 45], .w 17 [59, 55] []]; (focus kernel_rfl); (focus (simp [go_sem, hk4, hk5', cp]; exact ⟨rfl, rfl⟩)); try dsimp only [thn, inBlk])
      | fail)
    refine AWP.callE (by simp [go_sem, cp, wz, wz1]; exact ⟨rfl, rfl, rfl, rfl, rfl⟩) (by kernel_rfl) ?_
    refine (pass_calls kp.b1 hs2 (hJ.pass s hs2) hP (n := 1 + z) (by omega)).mono ?_
    rintro r h7 ⟨rfl, k7, _⟩
    refine awpL_restE (by simp [go_sem]; exact ⟨rfl, rfl⟩) ?_; try dsimp only [thn, inBlk]
    (repeat' first
      | refine AWP.seq ?_
      | refine AWP.block ?_
      | (refine AWP.skip ?_; try dsimp only [thn, inBlk])
      | (refine AWP.exit ?_; try simp only [thn, inBlk, if_true, reduceIte, Nat.reduceEqDiff])
      | (refine AWP.ret ?_; try dsimp only [thn, inBlk])
      | (refine AWP.condT ?_ ?_; (focus (simp [go_sem]; done)))
      | (refine AWP.condF ?_ ?_; (focus (simp [go_sem]; done)))
      | (apply AWP.rE; (focus (simp [go_sem]; exact ⟨rfl, rfl⟩)); try dsimp only [thn, inBlk])
      | (apply AWP.dE hmix [.n 0 [4], .n 1 [10], .n 2 [11], .n 3 [4], .n 4 [13], .n 5 [14], .n 6 [12], .n 7 [15]]; (focus kernel_rfl); (focus (simp [go_sem]; exact ⟨rfl, rfl⟩)); try dsimp only [thn, inBlk])
      | (apply AWP.dE hmix [.n 0 [0], .n 1 [7], .n 2 [8], .n 3 [0], .n 4 [7], .n 5 [8], .n 6 [46], .n 7 [49], .n 8 [50, 47], .n 9 [51, 48], .n 10 [52], .n 11 [9], .n 13 [43], .n 14 [56], .n 15 [57, 44], .w 12 [53, 54] [], .n 16 [58, 45], .w 17 [59, 55] []]; (focus kernel_rfl); (focus (simp [go_sem]; exact ⟨rfl, rfl⟩)); try dsimp only [thn, inBlk])
      | fail)
    simp [bodyQ, thn, inBlk, resA, resV, go_sem]
    exact k7.d1
  rw [if_pos hk5]
  have hk5' : ((kd : Int) == 5) = true := by simp; omega
  obtain ⟨s', hs'⟩ : ∃ s', s' = 1 - s := ⟨_, rfl⟩
  have hs2' : s' < 2 := by omega
  have hsi' : (s' : Int) < 2 := by omega
  have pb' := (pbs hs2' hc4).b
  have w1 := sub1 hs2
  rw [← hs'] at w1
  have gw := pc_way (P := P) (A := A) hs2'
  have hwl := (hJ.pass s' hs2').len P hP
  have hol := mout_len mi
  obtain ⟨PW, hPW⟩ : ∃ PW, PW = pout P s := ⟨_, rfl⟩
  rw [← hPW]
  (repeat' first
    | refine AWP.seq ?_
    | refine AWP.block ?_
    | (refine AWP.skip ?_; try dsimp only [thn, inBlk])
    | (refine AWP.exit ?_; try simp only [thn, inBlk, if_true, reduceIte, Nat.reduceEqDiff])
    | (refine AWP.ret ?_; try dsimp only [thn, inBlk])
    | (refine AWP.condT ?_ ?_; (focus (simp [go_sem, hk4, hk5', cp]; done)))
    | (refine AWP.condF ?_ ?_; (focus (simp [go_sem, hk4, hk5', cp]; done)))
    | (apply AWP.rE; (focus (simp [go_sem, hk4, hk5', cp]; exact ⟨rfl, rfl⟩)); try dsimp only [thn, inBlk])
    | (apply AWP.dE hmix [.n 0 [4], .n 1 [10], .n 2 [11], .n 3 [4], .n 4 [13], .n 5 [14], .n 6 [12], .n 7 [15]]; (focus kernel_rfl); (focus (simp [go_sem, hk4, hk5', cp]; exact ⟨rfl, rfl⟩)); try dsimp only [thn, inBlk])
    | (apply AWP.dE hmix [.n 0 [0], .n 1 [7], .n 2 [8], .n 3 [0], .n 4 [7], .n 5 [8], .n 6 [46], .n 7 [49], .n 8 [50, 47], .n 9 [51, 48], .n 10 [52], .n 11 [9], .n 13 [43], .n 14 [56], .n 15 [57, 44], .w 12 [53, 54] [], .n 16 [58, 45], .w 17 [59, 55] []]; (focus kernel_rfl); (focus (simp [go_sem, hk4, hk5', cp]; exact ⟨rfl, rfl⟩)); try dsimp only [thn, inBlk])
    | fail)
  (repeat refine AWP.seq ?_)
  refine AWP.draw hmix [.n 0 [0], .n 1 [7], .n 2 [90], .n 3 [0], .n 4 [7], .n 5 [93], .n 6 [92], .n 7 [95], .n 8 [96, 94], .n 9 [97], .n 10 [0], .n 11 [7], .n 12 [99], .n 13 [101], .n 14 [102, 100], .n 15 [103], .n 18 [89], .n 19 [107], .w 16 [104] [9], .w 17 [98, 105] [], .n 20 [108, 91], .w 21 [109, 106] []] (by kernel_rfl) ?_
  refine awpD_callR 18 (by rfl) (by rfl) (by simp [go_sem, c0, pl, gm, gw, pb, pb', hsi, hsi', w1]; exact ⟨rfl, rfl, rfl⟩) (by rfl) (by rfl) (by simp [go_sem]) (by simp [go_sem, c0, pl, gm, gw, pb, pb', hsi, hsi', w1]; exact ⟨rfl, rfl⟩) (by kernel_rfl) ?_
  refine (out_calls (po_outM hs2 kA) mi).mono ?_
  rintro r h9 ⟨fa, fc, rfl, k9⟩
  have k10 := po_inM2 hs2 (mout (P.o s) (P.i s)).2.1 (mout (P.o s) (P.i s)).2.2 k9.p2
  obtain ⟨fs, hfs⟩ : ∃ fs, fs = (mout (P.o s) (P.i s)).1 := ⟨_, rfl⟩
  rw [← hfs] at k10 hol ⊢
  obtain ⟨P1, hP1⟩ : ∃ P1 : PS, P1 = { P with o := up P.o s (mout (P.o s) (P.i s)).2.1, i := up P.i s (mout (P.o s) (P.i s)).2.2 } := ⟨_, rfl⟩
  rw [← hP1] at k10
  have hpc : pcells P1 A = pcells P A := by rw [hP1]; exact pcells_oi P A _ _
  have c10 : h9.obj b = some (.row (pcells P A) 58 28 true false) := by rw [← hpc]; exact k10.obj
  refine ⟨by simp [still, go_sem, c10, pl, gm, gw, pb, pb', hsi, hsi', w1], ?_⟩
  have k11 := po_out (j := 2 + s') (by omega) k10
  have e1w : P1.way = P.way := by rw [hP1]
  rw [ps_way hs2', e1w] at k11
  have k12 := k11.perm ((List.perm_middle (l₁ := cell b (prow P1 A) :: (psubs P1 A).eraseIdx (2 + s'))).cons _)
  obtain ⟨a5, c5, h13, e5, k13⟩ := frs_app k12 (by omega)
  have c13 : h13.obj b = some (.row (pcells P A) 58 28 true false) := by rw [← hpc]; exact k13.tail.obj
  refine awpD_writeR 0 (by rfl) (by rfl) (by simp [go_sem, c10, pl, gm, gw, pb, pb', hsi, hsi', w1, e5, c13]; exact ⟨rfl, rfl, rfl⟩) (by rfl) (by rfl) (by simp [go_sem]) (by simp [go_sem, c10, pl, gm, gw, pb, pb', hsi, hsi', w1, e5, c13]; exact ⟨rfl, rfl⟩) (by simp [still, go_sem, c10, pl, gm, gw, pb, pb', hsi, hsi', w1, e5, c13]) ?_
  obtain ⟨P2, hP2⟩ : ∃ P2 : PS, P2 = { P1 with way := up P1.way s' (P.way s' ++ fs) } := ⟨_, rfl⟩
  obtain ⟨A2, hA2⟩ : ∃ A2 : Ad, A2 = { A with wa := up A.wa s' (a5, c5) } := ⟨_, rfl⟩
  have hlen : (P.way s').length + fs.length = (P.way s' ++ fs).length := by simp
  have e6 : (pcells P A).set (2 + s') (.slice a5 ((P.way s').length + fs.length) c5) = pcells P2 A2 := by
    rw [← hpc, pset_way hs2' (P.way s' ++ fs) hlen, hP2, hA2]
  have k14 := k13.b1.set (prow P2 A2)
  have k15 : Own O (h13.set b (prow P2 A2)) (cell b (prow P2 A2) :: (psubs P2 A2 ++ (cell lc (.row (orow q a cap) 32 6 true false) :: R))) := by
    refine po_in (P := P1) (A := A) (j := 2 + s') (by omega) ?_ ?_
    rotate_left
    · rw [ps_way hs2']
      have e1 : P2.way s' = P.way s' ++ fs := by rw [hP2]; exact up_same _ _ _
      have e2 : A2.wa s' = (a5, c5) := by rw [hA2]; exact up_same _ _ _
      rw [e1, e2, ← hlen]
      exact k14.b1
    · rw [hP2, hA2]; exact pk_way hs2' _ _
  have eP : PW = P2 := by rw [hPW, pout, hP2, hP1, hfs, hs']
  refine awpD_writeR 1 (by rfl) (by rfl) (by simp [go_sem, pl, gm, gw, pb, pb', hsi, hsi', w1, c13, e6]; exact ⟨rfl, rfl, rfl⟩) (by rfl) (by rfl) (by simp [go_sem]) (by simp [go_sem, pl, gm, gw, pb, pb', hsi, hsi', w1, c13, e6]; exact ⟨rfl, rfl⟩) (by simp [still, go_sem, pl, gm, gw, pb, pb', hsi, hsi', w1, c13, e6]) ?_
  refine awpD_restR (by rfl) (by simp [go_sem]; exact ⟨rfl, rfl, rfl⟩) ?_; try dsimp only [thn, inBlk]
  (repeat' first
    | refine AWP.seq ?_
    | refine AWP.block ?_
    | (refine AWP.skip ?_; try dsimp only [thn, inBlk])
    | (refine AWP.exit ?_; try simp only [thn, inBlk, if_true, reduceIte, Nat.reduceEqDiff])
    | (refine AWP.ret ?_; try dsimp only [thn, inBlk])
    | (refine AWP.condT ?_ ?_; (focus (simp [go_sem]; done)))
    | (refine AWP.condF ?_ ?_; (focus (simp [go_sem]; done)))
    | (apply AWP.rE; (focus (simp [go_sem]; exact ⟨rfl, rfl⟩)); try dsimp only [thn, inBlk])
    | (apply AWP.dE hmix [.n 0 [4], .n 1 [10], .n 2 [11], .n 3 [4], .n 4 [13], .n 5 [14], .n 6 [12], .n 7 [15]]; (focus kernel_rfl); (focus (simp [go_sem]; exact ⟨rfl, rfl⟩)); try dsimp only [thn, inBlk])
    | (apply AWP.dE hmix [.n 0 [0], .n 1 [7], .n 2 [8], .n 3 [0], .n 4 [7], .n 5 [8], .n 6 [46], .n 7 [49], .n 8 [50, 47], .n 9 [51, 48], .n 10 [52], .n 11 [9], .n 13 [43], .n 14 [56], .n 15 [57, 44], .w 12 [53, 54] [], .n 16 [58, 45], .w 17 [59, 55] []]; (focus kernel_rfl); (focus (simp [go_sem]; exact ⟨rfl, rfl⟩)); try dsimp only [thn, inBlk])
    | fail)
  simp [bodyQ, thn, inBlk, resA, resV, go_sem]
  rw [eP]
  exact (pairc_iff.2 ⟨A2, k15⟩).d1
end L18
