import Derived.Test.YtjjocbijmhmdkaaL18ze
open Go Ab Go.Proofs
namespace L18
set_option autoImplicit false
set_option linter.unusedSimpArgs false
set_option linter.unusedVariables false
attribute [local irreducible] pcells

/-! ### Frames come to a side -/
theorem frs_tail {O : Old} {h : AHeap} {R : List Chunk} {v : Value} {f : Fr} {W : List Fr} (k : Own O h (frs v (f :: W) :: R)) :
    ∃ a' cap', sliceR Try.prog h 39 v (some (.int .i64 1)) none none = some (.slice a' W.length cap') ∧ ∃ p : PA, (∀ hh R', Own O hh (frs v (f :: W) :: R') → True) ∧ Own O h (frs (.slice a' W.length cap') W :: ob 5 (.slice p.1 f.2.length p.2) f.2 :: R) := by
  obtain ⟨ac, ha, k1⟩ := brecs_iff.1 k
  obtain ⟨p, ac', rfl⟩ : ∃ p ac', ac = p :: ac' := by
    cases ac with
    | nil => simp at ha
    | cons p ac' => exact ⟨p, ac', rfl⟩
  obtain ⟨v', e1, k2⟩ := k1.os_slice (P := Try.prog) (t := 39) Try.underlying39 tsz30 (lo := 1) (hi := (f :: W).length) (by simp) (Nat.le_refl _) (l := some (.int .i64 ((1 : Nat) : Int))) (u := none) (.inr ⟨.i64, rfl⟩) (.inl ⟨rfl, rfl⟩)
  have hl : (f :: W).length - 1 = W.length := by simp
  have ha' : ac'.length = W.length := by simpa using ha
  have hcl : ((rcells pre W ac').flatten).length = W.length * 2 := by
    rw [flat_length (sz := 2) (rcells_all (pre := pre) (fun x => rfl) ac'), rcells_length ha']
  have hc : (((rcells pre (f :: W) (p :: ac')).flatten.drop (1 * 2)).take (((f :: W).length - 1) * 2)) = (rcells pre W ac').flatten := by
    have e : (rcells pre (f :: W) (p :: ac')).flatten = [.int .i64 f.1, .slice p.1 f.2.length p.2] ++ (rcells pre W ac').flatten := rfl
    rw [e, hl]
    show List.take (W.length * 2) (rcells pre W ac').flatten = _
    exact List.take_of_length_le (by rw [hcl]; omega)
  rw [hc, hl] at k2
  obtain ⟨a', cap', rfl⟩ := k2.os_val
  refine ⟨a', cap', e1, p, fun _ _ _ => trivial, ?_⟩
  have e2 : rbods 5 (f :: W) (p :: ac') = ob 5 (.slice p.1 f.2.length p.2) f.2 :: rbods 5 W ac' := rfl
  rw [e2] at k2
  refine brecs_iff.2 ⟨ac', ha', ?_⟩
  exact k2.perm (List.Perm.cons _ (List.perm_middle (l₁ := rbods 5 W ac')).symm)
/-- The head of frames, and what is behind it. -/
theorem frs_head {O : Old} {h : AHeap} {R : List Chunk} {v : Value} {f : Fr} {W : List Fr} (k : Own O h (frs v (f :: W) :: R)) :
    ∃ p : PA, (∃ i off c e' sz' ti ro, indexAddrP Try.prog 39 v (.int .i64 0) = some (.pointer (some ⟨i, off, none⟩)) ∧ h.obj i = some (.row c e' sz' ti ro) ∧ off + 2 ≤ c.length ∧ (c.drop off).take 2 = [.int .i64 f.1, .slice p.1 f.2.length p.2]) ∧
      ∃ ac', ac'.length = W.length ∧ Own O h (frc v (f :: W) (p :: ac') :: R) := by
  obtain ⟨ac, ha, k1⟩ := frs_iff.1 k
  obtain ⟨p, ac', rfl⟩ : ∃ p ac', ac = p :: ac' := by
    cases ac with
    | nil => simp at ha
    | cons p ac' => exact ⟨p, ac', rfl⟩
  obtain ⟨i, off, c, e', sz', ti, ro, q1, q2, q3, q4, _⟩ := fr_at k1 ha (j := 0) rfl rfl (kd := .i64)
  exact ⟨p, ⟨i, off, c, e', sz', ti, ro, q1, q2, q3, q4⟩, ac', by simpa using ha, k1⟩
theorem frc_tail {O : Old} {h : AHeap} {R : List Chunk} {v : Value} {f : Fr} {W : List Fr} {p : PA} {ac' : PAs} (ha' : ac'.length = W.length) (k : Own O h (frc v (f :: W) (p :: ac') :: R)) :
    ∃ a' cap', sliceR Try.prog h 39 v (some (.int .i64 1)) none none = some (.slice a' W.length cap') ∧ Own O h (frs (.slice a' W.length cap') W :: ob 5 (.slice p.1 f.2.length p.2) f.2 :: R) := by
  have k1 := Own.star_iff.1 k
  obtain ⟨v', e1, k2⟩ := Own.os_slice (P := Try.prog) (t := 39) Try.underlying39 tsz30 (lo := 1) (hi := (f :: W).length) (by simp) (Nat.le_refl _) (l := some (.int .i64 ((1 : Nat) : Int))) (u := none) (.inr ⟨.i64, rfl⟩) (.inl ⟨rfl, rfl⟩) (R := rbods 5 (f :: W) (p :: ac') ++ R) k1
  have hl : (f :: W).length - 1 = W.length := by simp
  have hcl : ((rcells pre W ac').flatten).length = W.length * 2 := by
    rw [flat_length (sz := 2) (rcells_all (pre := pre) (fun x => rfl) ac'), rcells_length ha']
  have hc : (((rcells pre (f :: W) (p :: ac')).flatten.drop (1 * 2)).take (((f :: W).length - 1) * 2)) = (rcells pre W ac').flatten := by
    have e : (rcells pre (f :: W) (p :: ac')).flatten = [.int .i64 f.1, .slice p.1 f.2.length p.2] ++ (rcells pre W ac').flatten := rfl
    rw [e, hl]
    show List.take (W.length * 2) (rcells pre W ac').flatten = _
    exact List.take_of_length_le (by rw [hcl]; omega)
  rw [hc, hl] at k2
  obtain ⟨a', cap', rfl⟩ := k2.os_val
  refine ⟨a', cap', e1, ?_⟩
  have e2 : rbods 5 (f :: W) (p :: ac') = ob 5 (.slice p.1 f.2.length p.2) f.2 :: rbods 5 W ac' := rfl
  rw [e2] at k2
  refine brecs_iff.2 ⟨ac', ha', ?_⟩
  exact k2.perm (List.Perm.cons _ (List.perm_middle (l₁ := rbods 5 W ac')).symm)
def pstep1 (P : PS) (s : Nat) (f : Fr) (W : List Fr) : PS :=
  { P with way := up P.way s W, o := up P.o s (mtake (P.o s) (P.i s) f).2.1, i := up P.i s (mtake (P.o s) (P.i s) f).2.2 }
def ppass (s : Nat) : Nat → PS → PS
  | 0, P => P
  | n + 1, P => match P.way s with | [] => P | f :: W => ppass s n (pstep1 P s f W)
structure PassI (I : PS → Prop) (s : Nat) : Prop where
  mi : ∀ P, I P → MI (P.o s) (P.i s)
  sm : ∀ P, I P → ∀ f ∈ P.way s, f.2.length ≤ 512
  len : ∀ P, I P → (P.way s).length ≤ 1000000
  ok : ∀ P f W, I P → P.way s = f :: W → (mtake (P.o s) (P.i s) f).1 = 0 ∧ I (pstep1 P s f W)
set_option maxHeartbeats 4000000 in
theorem pass_calls {O : Old} {h : AHeap} {R : List Chunk} {b s : Nat} {P0 : PS} {I : PS → Prop} (k : Own O h (pairc b P0 :: R)) (hs : s < 2) (hI : PassI I s) (h0 : I P0) {n : Nat} (hn : n ≤ 1000000) :
    ACalls Try.prog 29 #[ptr b, .int .i64 s, .int .i64 n] h fun r h' => r = .bool true ∧ Own O h' (pairc b (ppass s n P0) :: R) ∧ I (ppass s n P0) := by
  refine ACalls.of_awp (args := [ptr b, .int .i64 s, .int .i64 n]) (n := 53) Try.func29 rfl rfl (by show 3 ≤ 53; omega) ?_
  (repeat' first
    | refine AWP.seq ?_
    | refine AWP.block ?_
    | (refine AWP.skip ?_; try dsimp only [thn, inBlk])
    | (refine AWP.exit ?_; try simp only [thn, inBlk, if_true, reduceIte, Nat.reduceEqDiff])
    | (refine AWP.ret ?_; try dsimp only [thn, inBlk])
    | (refine AWP.condT ?_ ?_; (focus (simp [go_sem]; done)))
    | (refine AWP.condF ?_ ?_; (focus (simp [go_sem]; done)))
    | (apply AWP.rE; (focus (simp [go_sem]; exact ⟨rfl, rfl⟩)); try dsimp only [thn, inBlk])
    | (apply AWP.dE hmix [.n 0 [0], .n 1 [1], .n 2 [0], .n 3 [1], .n 4 [34], .n 5 [36], .n 6 [37, 35], .n 7 [38], .n 8 [39], .n 9 [32], .n 10 [41], .n 11 [42, 33], .w 12 [43, 40] []]; (focus kernel_rfl); (focus (simp [go_sem]; exact ⟨rfl, rfl⟩)); try dsimp only [thn, inBlk])
    | fail)
  refine AWP.loopR [0, 1, 2, 7] (fun m s_ h' => ∃ (j : Nat) (P : PS), j ≤ n ∧ m = n - j ∧ s_ = ⟨53, [(0, ptr b), (1, .int .i64 s), (2, .int .i64 n), (7, .int .i64 (j : Nat))]⟩ ∧ I P ∧ ppass s n P0 = ppass s (n - j) P ∧ Own O h' (pairc b P :: R)) ?_ ?_
  · exact ⟨_, 0, P0, by omega, rfl, by simp [go_sem], h0, rfl, k⟩
  rintro m s_ h' ⟨j, P, hj, rfl, rfl, hP, hpp, kt⟩
  have hsi : (s : Int) < 2 := by omega
  have pb := (pbs (c := 0) hs (by omega)).b
  obtain ⟨A, kA⟩ := pairc_iff.1 kt
  have c0 := kA.obj
  have pl := p_len (P := P) (A := A)
  have gw := pc_way (P := P) (A := A) hs
  by_cases hj2 : j < n
  rotate_left
  · have hj3 : ¬ (j : Int) < n := by omega
    have e : ppass s n P0 = P := by rw [hpp, show n - j = 0 by omega]; rfl
    rw [e]
    (repeat' first
      | refine AWP.seq ?_
      | refine AWP.block ?_
      | (refine AWP.skip ?_; try dsimp only [thn, inBlk])
      | (refine AWP.exit ?_; try simp only [thn, inBlk, if_true, reduceIte, Nat.reduceEqDiff])
      | (refine AWP.ret ?_; try dsimp only [thn, inBlk])
      | (refine AWP.condT ?_ ?_; (focus (simp [go_sem, hj3]; done)))
      | (refine AWP.condF ?_ ?_; (focus (simp [go_sem, hj3]; done)))
      | (apply AWP.rE; (focus (simp [go_sem, hj3]; exact ⟨rfl, rfl⟩)); try dsimp only [thn, inBlk])
      | (apply AWP.dE hmix [.n 0 [0], .n 1 [1], .n 2 [0], .n 3 [1], .n 4 [34], .n 5 [36], .n 6 [37, 35], .n 7 [38], .n 8 [39], .n 9 [32], .n 10 [41], .n 11 [42, 33], .w 12 [43, 40] []]; (focus kernel_rfl); (focus (simp [go_sem, hj3]; exact ⟨rfl, rfl⟩)); try dsimp only [thn, inBlk])
      | fail)
    simp [bodyQ, thn, inBlk, resA, resV, go_sem]
    exact ⟨kt, hP⟩
  have hj3 : (j : Int) < n := by omega
  cases hW : P.way s with
  | nil =>
    have e : ppass s n P0 = P := by
      rw [hpp]
      obtain ⟨q, hq⟩ : ∃ q, n - j = q + 1 := ⟨n - j - 1, by omega⟩
      rw [hq, ppass, hW]
    rw [e]
    rw [hW] at gw
    (repeat' first
      | refine AWP.seq ?_
      | refine AWP.block ?_
      | (refine AWP.skip ?_; try dsimp only [thn, inBlk])
      | (refine AWP.exit ?_; try simp only [thn, inBlk, if_true, reduceIte, Nat.reduceEqDiff])
      | (refine AWP.ret ?_; try dsimp only [thn, inBlk])
      | (refine AWP.condT ?_ ?_; (focus (simp [go_sem, hj3, c0, pl, gw, pb, hsi]; done)))
      | (refine AWP.condF ?_ ?_; (focus (simp [go_sem, hj3, c0, pl, gw, pb, hsi]; done)))
      | (apply AWP.rE; (focus (simp [go_sem, hj3, c0, pl, gw, pb, hsi]; exact ⟨rfl, rfl⟩)); try dsimp only [thn, inBlk])
      | (apply AWP.dE hmix [.n 0 [0], .n 1 [1], .n 2 [0], .n 3 [1], .n 4 [34], .n 5 [36], .n 6 [37, 35], .n 7 [38], .n 8 [39], .n 9 [32], .n 10 [41], .n 11 [42, 33], .w 12 [43, 40] []]; (focus kernel_rfl); (focus (simp [go_sem, hj3, c0, pl, gw, pb, hsi]; exact ⟨rfl, rfl⟩)); try dsimp only [thn, inBlk])
      | fail)
    simp [bodyQ, thn, inBlk, resA, resV, go_sem]
    exact ⟨kt, hP⟩
  | cons f W =>
    obtain ⟨hr0, hI2⟩ := hI.ok P f W hP hW
    have mi := hI.mi P hP
    have hfl := hI.sm P hP f (by rw [hW]; simp)
    have hlen := hI.len P hP
    rw [hW] at hlen gw
    simp only [List.length_cons] at hlen gw
    obtain ⟨j1, hj1⟩ : ∃ j1, j1 = j + 1 := ⟨_, rfl⟩
    have wj : IntKind.i64.wrap ((j : Int) + 1) = (j1 : Int) := by rw [wI64 (by omega) (by omega)]; omega
    have k1 := po_out (j := 2 + s) (by omega) kA
    rw [ps_way hs, hW] at k1
    simp only [List.length_cons] at k1
    obtain ⟨p, ⟨i4, o4, c4, e4, s4, t4, ro4, p4, q4, r4, u4⟩, ac', ha', k2⟩ := frs_head k1
    obtain ⟨N, hN⟩ : ∃ N, N = W.length + 1 := ⟨_, rfl⟩
    rw [← hN] at k2 gw p4
    have hN0 : (0 : Int) < N := by omega
    have hN0' : 0 < N := by omega
    have kf := k2.push (.row [.int .i64 f.1, .slice p.1 f.2.length p.2] 30 2 true false)
    have cf := kf.obj
    have cb := kf.b2.obj
    obtain ⟨a5, c5, s5, k5⟩ := frc_tail ha' kf.b1
    have e6 := pset_way (P := P) (A := A) hs W (a := a5) (cap := c5) rfl
    obtain ⟨P1, hP1⟩ : ∃ P1 : PS, P1 = { P with way := up P.way s W } := ⟨_, rfl⟩
    obtain ⟨A1, hA1⟩ : ∃ A1 : Ad, A1 = { A with wa := up A.wa s (a5, c5) } := ⟨_, rfl⟩
    rw [← hP1, ← hA1] at e6
    have k6 := k5.b3.set (prow P1 A1)
    have k6b := k6.b1.perm (((List.perm_append_comm_assoc [ob 5 (.slice p.1 f.2.length p.2) f.2, cell h'.next (.row [.int .i64 f.1, .slice p.1 f.2.length p.2] 30 2 true false)] ((psubs P A).eraseIdx (2 + s)) R).cons _).cons _)
    have k7 : Own O ((h'.push (.row [.int .i64 f.1, .slice p.1 f.2.length p.2] 30 2 true false)).set b (prow P1 A1)) (cell b (prow P1 A1) :: (psubs P1 A1 ++ (ob 5 (.slice p.1 f.2.length p.2) f.2 :: cell h'.next (.row [.int .i64 f.1, .slice p.1 f.2.length p.2] 30 2 true false) :: R))) := by
      refine po_in (P := P) (A := A) (j := 2 + s) (by omega) ?_ ?_
      · rw [hP1, hA1]; exact pk_way hs _ _
      · rw [ps_way hs]
        have e1 : P1.way s = W := by rw [hP1]; exact up_same _ _ _
        have e2 : A1.wa s = (a5, c5) := by rw [hA1]; exact up_same _ _ _
        rw [e1, e2]
        exact k6b
    have c7 := k7.obj
    have pl1 := p_len (P := P1) (A := A1)
    have gm1 := pc_m (P := P1) (A := A1) hs
    have d7 := k7.tail.rest.tail.obj
    have e1o : P1.o = P.o := by rw [hP1]
    have e1i : P1.i = P.i := by rw [hP1]
    (repeat' first
      | refine AWP.seq ?_
      | refine AWP.block ?_
      | (refine AWP.skip ?_; try dsimp only [thn, inBlk])
      | (refine AWP.exit ?_; try simp only [thn, inBlk, if_true, reduceIte, Nat.reduceEqDiff])
      | (refine AWP.ret ?_; try dsimp only [thn, inBlk])
      | (refine AWP.condT ?_ ?_; (focus (simp [go_sem, hj3, c0, pl, gw, pb, hsi, hN0, hN0', p4, q4, r4, u4, cf, cb, s5, e6]; done)))
      | (refine AWP.condF ?_ ?_; (focus (simp [go_sem, hj3, c0, pl, gw, pb, hsi, hN0, hN0', p4, q4, r4, u4, cf, cb, s5, e6]; done)))
      | (apply AWP.rE; (focus (simp [go_sem, hj3, c0, pl, gw, pb, hsi, hN0, hN0', p4, q4, r4, u4, cf, cb, s5, e6]; exact ⟨rfl, rfl⟩)); try dsimp only [thn, inBlk])
      | (apply AWP.dE hmix [.n 0 [0], .n 1 [1], .n 2 [0], .n 3 [1], .n 4 [34], .n 5 [36], .n 6 [37, 35], .n 7 [38], .n 8 [39], .n 9 [32], .n 10 [41], .n 11 [42, 33], .w 12 [43, 40] []]; (focus kernel_rfl); (focus (simp [go_sem, hj3, c0, pl, gw, pb, hsi, hN0, hN0', p4, q4, r4, u4, cf, cb, s5, e6]; exact ⟨rfl, rfl⟩)); try dsimp only [thn, inBlk])
      | fail)
    (repeat refine AWP.seq ?_)
    refine AWP.draw hmix [.n 0 [0], .n 1 [1], .n 2 [44], .n 3 [46], .n 4 [47, 45], .n 5 [48], .n 6 [8], .w 7 [49, 50] [], .n 8 [51]] (by kernel_rfl) ?_
    refine awpD_callR 7 (by rfl) (by rfl) (by simp [go_sem, c7, d7, pl1, gm1, pb, hsi]; exact ⟨rfl, rfl, rfl⟩) (by rfl) (by rfl) (by simp [go_sem]) (by simp [go_sem, c7, d7, pl1, gm1, pb, hsi]; exact ⟨rfl, rfl⟩) (by kernel_rfl) ?_
    have k8 := po_outM hs k7
    rw [e1o, e1i] at k8
    refine (take_calls f k8 mi (fun hh kk => kk.tail.rest.ob_bytes) (by omega)).mono ?_
    rw [hr0]
    rintro r h9 ⟨rfl, k9⟩
    have k10 := po_inM hs (mtake (P.o s) (P.i s) f).2.1 (mtake (P.o s) (P.i s) f).2.2 k9
    have c10 := k10.obj
    have d10 := k10.tail.rest.tail.obj
    refine ⟨by simp [still, go_sem, c10, d10], ?_⟩
    refine awpD_restR (by rfl) (by simp [go_sem]; exact ⟨rfl, rfl, rfl⟩) ?_; try dsimp only [thn, inBlk]
    (repeat' first
      | refine AWP.seq ?_
      | refine AWP.block ?_
      | (refine AWP.skip ?_; try dsimp only [thn, inBlk])
      | (refine AWP.exit ?_; try simp only [thn, inBlk, if_true, reduceIte, Nat.reduceEqDiff])
      | (refine AWP.ret ?_; try dsimp only [thn, inBlk])
      | (refine AWP.condT ?_ ?_; (focus (simp [go_sem, wj]; done)))
      | (refine AWP.condF ?_ ?_; (focus (simp [go_sem, wj]; done)))
      | (apply AWP.rE; (focus (simp [go_sem, wj]; exact ⟨rfl, rfl⟩)); try dsimp only [thn, inBlk])
      | (apply AWP.dE hmix [.n 0 [0], .n 1 [1], .n 2 [0], .n 3 [1], .n 4 [34], .n 5 [36], .n 6 [37, 35], .n 7 [38], .n 8 [39], .n 9 [32], .n 10 [41], .n 11 [42, 33], .w 12 [43, 40] []]; (focus kernel_rfl); (focus (simp [go_sem, wj]; exact ⟨rfl, rfl⟩)); try dsimp only [thn, inBlk])
      | fail)
    refine ⟨n - j1, by omega, j1, pstep1 P s f W, by omega, rfl, by simp [go_sem], hI2, ?_, ?_⟩
    · rw [hpp]
      obtain ⟨q, hq⟩ : ∃ q, n - j = q + 1 := ⟨n - j - 1, by omega⟩
      rw [hq, ppass, hW, show n - j1 = q by omega]
    · have eP : pstep1 P s f W = { P1 with o := up P1.o s (mtake (P.o s) (P.i s) f).2.1, i := up P1.i s (mtake (P.o s) (P.i s) f).2.2 } := by rw [hP1]; rfl
      rw [eP]
      exact (pairc_iff.2 ⟨A1, k10⟩).d2.d1
end L18
