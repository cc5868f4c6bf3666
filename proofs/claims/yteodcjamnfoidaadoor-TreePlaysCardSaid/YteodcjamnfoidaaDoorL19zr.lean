import Derived.Test.YteodcjamnfoidaaDoorL19zq
open Go Ab Go.Proofs
namespace L19
set_option autoImplicit false
set_option linter.unusedSimpArgs false
set_option linter.unusedVariables false
section
variable {O : Old} {h : AHeap} {R : List Chunk} {i : Nat} {T : TL}
/-! ### Stat and List -/
def StatT (O : Old) (R : List Chunk) (i : Nat) (T : TL) (who p : List UInt8) (r : Value) (h' : AHeap) : Prop :=
  ∃ z : NZ, r = .tuple #[.agg (nz z).toArray, .int .i64 (findE T who p)] ∧ ((findE T who p = 0 ∧ z.1.1 = p ∧ get T p = some z.1.2) ∨ (findE T who p ≠ 0 ∧ z = zN)) ∧ Own O h' (sb z :: tr i T :: R)
set_option maxHeartbeats 8000000 in
theorem stat_calls {who p : List UInt8} (hI : TK T) (k : Own O h (tr i T :: R)) (hp : p.length ≤ 900000) :
    ACalls Tryd.prog 51 #[ptr i, tx who, tx p] h (StatT O R i T who p) := by
  obtain ⟨m, ws, hw, k0⟩ := tr_iff.1 k
  refine ACalls.of_awp (args := [ptr i, tx who, tx p]) (n := 23) Tryd.func51 rfl rfl (by show 3 ≤ 23; omega) ?_
  have k1 := k0.push (.row (nz zN) 43 5 true false)
  have k1' : Own O _ (tro i m T ws ++ (cell h.next (.row (nz zN) 43 5 true false) :: R)) := k1.perm (by
    show (_ :: (tro i m T ws ++ R)).Perm _
    exact List.perm_middle.symm)
  (repeat' first
    | refine AWP.seq ?_
    | refine AWP.block ?_
    | (refine AWP.skip ?_; try dsimp only [thn, inBlk])
    | (refine AWP.exit ?_; try simp only [thn, inBlk, if_true, reduceIte, Nat.reduceEqDiff])
    | (refine AWP.ret ?_; try dsimp only [thn, inBlk])
    | (refine AWP.condT ?_ ?_; (focus (simp [go_sem]; done)))
    | (refine AWP.condF ?_ ?_; (focus (simp [go_sem]; done)))
    | (apply AWP.rE; (focus (simp [go_sem]; exact ⟨rfl, rfl⟩)); try dsimp only [thn, inBlk])
    | fail)
  refine AWP.callE (by simp [go_sem]; exact ⟨rfl, rfl, rfl, rfl, rfl⟩) (by kernel_rfl) ?_
  refine (find_calls (who := who) hI.toTI hw k1' hp).mono ?_
  rintro r h1 ⟨rfl, k2⟩
  have k3 : Own O h1 (cell h.next (.row (nz zN) 43 5 true false) :: (tro i m T ws ++ R)) := k2.perm List.perm_middle
  have c3 := k3.obj
  by_cases hc : findE T who p = 0
  rotate_left
  · have hc' : (findE T who p != 0) = true := by simpa using hc
    have k4 := k3.set (.row (nz zN) 43 5 true false)
    have c4 := k4.obj
    have hf : ∀ hh : AHeap, Own O hh (tro i m T ws ++ R) → StatT O R i T who p (.tuple #[.agg (nz zN).toArray, .int .i64 (findE T who p)]) hh := fun hh kk => ⟨zN, rfl, .inr ⟨hc, rfl⟩, (tr_iff.2 ⟨m, ws, hw, kk⟩).nil 5 1⟩
    generalize (if comeE T who p = 0 then pv T ws p else .pointer none) = PV
    generalize findE T who p = y at *
    refine awpL_restE (by simp [go_sem]; exact ⟨rfl, rfl⟩) ?_; try dsimp only [thn, inBlk]
    (repeat' first
      | refine AWP.seq ?_
      | refine AWP.block ?_
      | (refine AWP.skip ?_; try dsimp only [thn, inBlk])
      | (refine AWP.exit ?_; try simp only [thn, inBlk, if_true, reduceIte, Nat.reduceEqDiff])
      | (refine AWP.ret ?_; try dsimp only [thn, inBlk])
      | (refine AWP.condT ?_ ?_; (focus (simp [go_sem, hc', c3]; done)))
      | (refine AWP.condF ?_ ?_; (focus (simp [go_sem, hc', c3]; done)))
      | (apply AWP.rE; (focus (simp [go_sem, hc', c3]; exact ⟨rfl, rfl⟩)); try dsimp only [thn, inBlk])
      | fail)
    simp [bodyQ, thn, inBlk, resA, resV, go_sem, c4]
    exact hf _ k4.tail
  obtain ⟨nd, hg⟩ := find_get hc
  have hc0 : comeE T who p = 0 := by
    by_cases h : comeE T who p = 0
    · exact h
    · unfold findE at hc; rw [if_neg h] at hc; exact absurd hc h
  obtain ⟨j, w, t1, t2, t3, t4⟩ := pv_at hw hg
  have hdl := hI.dl _ (List.mem_of_getElem? t1)
  dsimp only at hdl
  have hstat : ∀ (a : Option Addr) (cap : Nat) (hh : AHeap), Own O hh (ndat (p, nd) (a, cap) :: (tro i m T ws ++ R)) → StatT O R i T who p (.tuple #[.agg (ncells (p, nd) (a, cap)).toArray, .int .i64 0]) hh := fun a cap hh kk =>
    ⟨((p, nd), (a, cap)), by rw [hc], .inl ⟨hc, rfl, hg⟩, ((tr_iff.2 ⟨m, ws, hw, kk.tail.perm (List.Perm.refl _)⟩ : Own O hh (tr i T :: R)) |> fun _ => by
      have kp : Own O hh (tro i m T ws ++ (ndat (p, nd) (a, cap) :: R)) := kk.perm List.perm_middle.symm
      exact (tr_iff.2 ⟨m, ws, hw, kp⟩).b1)⟩
  rw [if_pos hc0, t3, hc]
  have kR : ∀ hh, Own O hh (cell h.next (.row (nz zN) 43 5 true false) :: (tro i m T ws ++ R)) → hh.obj w.1 = some (nrow (p, nd) w) := fun hh kk => (node_open kk.tail t1 t2).obj
  have kB : ∀ hh, Own O hh (cell h.next (.row (nz zN) 43 5 true false) :: (tro i m T ws ++ R)) → Bytes hh (.slice w.2.1 nd.data.length w.2.2) nd.data := fun hh kk => (node_open kk.tail t1 t2).tail.ob_bytes
  refine awpL_restE (by simp [go_sem]; exact ⟨rfl, rfl⟩) ?_; try dsimp only [thn, inBlk]
  (repeat' first
    | refine AWP.seq ?_
    | refine AWP.block ?_
    | (refine AWP.skip ?_; try dsimp only [thn, inBlk])
    | (refine AWP.exit ?_; try simp only [thn, inBlk, if_true, reduceIte, Nat.reduceEqDiff])
    | (refine AWP.ret ?_; try dsimp only [thn, inBlk])
    | (refine AWP.condT ?_ ?_; (focus (simp [go_sem]; done)))
    | (refine AWP.condF ?_ ?_; (focus (simp [go_sem]; done)))
    | (apply AWP.rE; (focus (simp [go_sem]; exact ⟨rfl, rfl⟩)); try dsimp only [thn, inBlk])
    | fail)
  refine AWP.callE (by simp [go_sem]; exact ⟨rfl, rfl, rfl, rfl, rfl⟩) (by kernel_rfl) ?_
  refine (copied_calls (x := (p, nd)) (w := w) k3 kR kB (by dsimp only; omega)).mono ?_
  rintro r h3 ⟨a, cap, rfl, k5⟩
  have c5 := k5.b1.obj
  have k6 := k5.b1.set (.row (ncells (p, nd) (a, cap)) 43 5 true false)
  have c6 := k6.obj
  refine awpL_restE (by simp [go_sem, c5]; exact ⟨rfl, rfl⟩) ?_; try dsimp only [thn, inBlk]
  (repeat' first
    | refine AWP.seq ?_
    | refine AWP.block ?_
    | (refine AWP.skip ?_; try dsimp only [thn, inBlk])
    | (refine AWP.exit ?_; try simp only [thn, inBlk, if_true, reduceIte, Nat.reduceEqDiff])
    | (refine AWP.ret ?_; try dsimp only [thn, inBlk])
    | (refine AWP.condT ?_ ?_; (focus (simp [go_sem]; done)))
    | (refine AWP.condF ?_ ?_; (focus (simp [go_sem]; done)))
    | (apply AWP.rE; (focus (simp [go_sem]; exact ⟨rfl, rfl⟩)); try dsimp only [thn, inBlk])
    | fail)
  simp [bodyQ, thn, inBlk, resA, resV, go_sem, c6]
  exact hstat a cap _ k6.tail
def ListT (O : Old) (R : List Chunk) (i : Nat) (T : TL) (who p : List UInt8) (r : Value) (h' : AHeap) : Prop :=
  ∃ a cap S, r = .tuple #[.slice a S.length cap, .int .i64 (lsE T who p)] ∧ (lsE T who p = 0 → S = srt (kids T p)) ∧ (lsE T who p ≠ 0 → S = []) ∧ Own O h' (txs (.slice a S.length cap) S :: tr i T :: R)
set_option maxHeartbeats 8000000 in
theorem list_calls {who p : List UInt8} (hI : TK T) (k : Own O h (tr i T :: R)) (hp : p.length ≤ 900000) :
    ACalls Tryd.prog 54 #[ptr i, tx who, tx p] h (ListT O R i T who p) := by
  obtain ⟨m, ws, hw, k0⟩ := tr_iff.1 k
  have hmx := hI.mx
  refine ACalls.of_awp (args := [ptr i, tx who, tx p]) (n := 35) Tryd.func54 rfl rfl (by show 3 ≤ 35; omega) ?_
  (repeat' first
    | refine AWP.seq ?_
    | refine AWP.block ?_
    | (refine AWP.skip ?_; try dsimp only [thn, inBlk])
    | (refine AWP.exit ?_; try simp only [thn, inBlk, if_true, reduceIte, Nat.reduceEqDiff])
    | (refine AWP.ret ?_; try dsimp only [thn, inBlk])
    | (refine AWP.condT ?_ ?_; (focus (simp [go_sem]; done)))
    | (refine AWP.condF ?_ ?_; (focus (simp [go_sem]; done)))
    | (apply AWP.rE; (focus (simp [go_sem]; exact ⟨rfl, rfl⟩)); try dsimp only [thn, inBlk])
    | fail)
  refine AWP.callE (by simp [go_sem]; exact ⟨rfl, rfl, rfl, rfl, rfl⟩) (by kernel_rfl) ?_
  refine (find_calls (who := who) hI.toTI hw k0 hp).mono ?_
  rintro r h1 ⟨rfl, k1⟩
  have kT := (tr_iff.2 ⟨m, ws, hw, k1⟩).nil 9 1
  have bad : ∀ (y : Int), lsE T who p = y → y ≠ 0 → ListT O R i T who p (.tuple #[.slice none 0 0, .int .i64 y]) h1 := fun y e hy => by
    unfold ListT
    rw [e]
    exact ⟨none, 0, [], rfl, fun q => absurd q hy, fun _ => rfl, kT⟩
  by_cases hc : findE T who p = 0
  rotate_left
  · have hc' : (findE T who p != 0) = true := by simpa using hc
    have e : lsE T who p = findE T who p := by unfold lsE; rw [if_neg hc]
    have b := bad _ e hc
    generalize (if comeE T who p = 0 then pv T ws p else .pointer none) = PV
    generalize findE T who p = y at *
    refine awpL_restE (by simp [go_sem]; exact ⟨rfl, rfl⟩) ?_; try dsimp only [thn, inBlk]
    (repeat' first
      | refine AWP.seq ?_
      | refine AWP.block ?_
      | (refine AWP.skip ?_; try dsimp only [thn, inBlk])
      | (refine AWP.exit ?_; try simp only [thn, inBlk, if_true, reduceIte, Nat.reduceEqDiff])
      | (refine AWP.ret ?_; try dsimp only [thn, inBlk])
      | (refine AWP.condT ?_ ?_; (focus (simp [go_sem, hc']; done)))
      | (refine AWP.condF ?_ ?_; (focus (simp [go_sem, hc']; done)))
      | (apply AWP.rE; (focus (simp [go_sem, hc']; exact ⟨rfl, rfl⟩)); try dsimp only [thn, inBlk])
      | fail)
    simp [bodyQ, thn, inBlk, resA, resV, go_sem]
    exact b
  obtain ⟨nd, hg⟩ := find_get hc
  have hc0 : comeE T who p = 0 := by
    by_cases h : comeE T who p = 0
    · exact h
    · unfold findE at hc; rw [if_neg h] at hc; exact absurd hc h
  obtain ⟨j, w, t1, t2, t3, t4⟩ := pv_at hw hg
  have ho : h1.obj w.1 = some (nrow (p, nd) w) := (node_open k1 t1 t2).obj
  have hmd := hI.md _ (List.mem_of_getElem? t1)
  have e0 : lsE T who p = if nd.dir = false then 112 else if may who nd 4 = false then 114 else 0 := by
    unfold lsE; rw [if_pos hc, hg]
  rw [if_pos hc0, t3, hc]
  cases hdr : nd.dir
  · rw [hdr, if_pos rfl] at e0
    have b := bad _ e0 (by decide)
    refine awpL_restE (by simp [go_sem]; exact ⟨rfl, rfl⟩) ?_; try dsimp only [thn, inBlk]
    (repeat' first
      | refine AWP.seq ?_
      | refine AWP.block ?_
      | (refine AWP.skip ?_; try dsimp only [thn, inBlk])
      | (refine AWP.exit ?_; try simp only [thn, inBlk, if_true, reduceIte, Nat.reduceEqDiff])
      | (refine AWP.ret ?_; try dsimp only [thn, inBlk])
      | (refine AWP.condT ?_ ?_; (focus (simp [go_sem, ho, hdr]; done)))
      | (refine AWP.condF ?_ ?_; (focus (simp [go_sem, ho, hdr]; done)))
      | (apply AWP.rE; (focus (simp [go_sem, ho, hdr]; exact ⟨rfl, rfl⟩)); try dsimp only [thn, inBlk])
      | fail)
    simp [bodyQ, thn, inBlk, resA, resV, go_sem]
    exact b
  rw [hdr, if_neg (by decide)] at e0
  refine awpL_restE (by simp [go_sem]; exact ⟨rfl, rfl⟩) ?_; try dsimp only [thn, inBlk]
  (repeat' first
    | refine AWP.seq ?_
    | refine AWP.block ?_
    | (refine AWP.skip ?_; try dsimp only [thn, inBlk])
    | (refine AWP.exit ?_; try simp only [thn, inBlk, if_true, reduceIte, Nat.reduceEqDiff])
    | (refine AWP.ret ?_; try dsimp only [thn, inBlk])
    | (refine AWP.condT ?_ ?_; (focus (simp [go_sem, ho, hdr]; done)))
    | (refine AWP.condF ?_ ?_; (focus (simp [go_sem, ho, hdr]; done)))
    | (apply AWP.rE; (focus (simp [go_sem, ho, hdr]; exact ⟨rfl, rfl⟩)); try dsimp only [thn, inBlk])
    | fail)
  refine AWP.callE (by simp [go_sem]; exact ⟨rfl, rfl, rfl, rfl, rfl⟩) (by kernel_rfl) ?_
  refine (may_calls (who := who) (bit := 4) ho hmd (by omega)).mono ?_
  rintro r h3 ⟨rfl, rfl⟩
  dsimp only
  cases hmy : may who nd 4
  · rw [hmy, if_pos rfl] at e0
    have b := bad _ e0 (by decide)
    refine awpL_restE (by simp [go_sem]; exact ⟨rfl, rfl⟩) ?_; try dsimp only [thn, inBlk]
    (repeat' first
      | refine AWP.seq ?_
      | refine AWP.block ?_
      | (refine AWP.skip ?_; try dsimp only [thn, inBlk])
      | (refine AWP.exit ?_; try simp only [thn, inBlk, if_true, reduceIte, Nat.reduceEqDiff])
      | (refine AWP.ret ?_; try dsimp only [thn, inBlk])
      | (refine AWP.condT ?_ ?_; (focus (simp [go_sem]; done)))
      | (refine AWP.condF ?_ ?_; (focus (simp [go_sem]; done)))
      | (apply AWP.rE; (focus (simp [go_sem]; exact ⟨rfl, rfl⟩)); try dsimp only [thn, inBlk])
      | fail)
    simp [bodyQ, thn, inBlk, resA, resV, go_sem]
    exact b
  rw [hmy, if_neg (by decide)] at e0
  refine awpL_restE (by simp [go_sem]; exact ⟨rfl, rfl⟩) ?_; try dsimp only [thn, inBlk]
  (repeat' first
    | refine AWP.seq ?_
    | refine AWP.block ?_
    | (refine AWP.skip ?_; try dsimp only [thn, inBlk])
    | (refine AWP.exit ?_; try simp only [thn, inBlk, if_true, reduceIte, Nat.reduceEqDiff])
    | (refine AWP.ret ?_; try dsimp only [thn, inBlk])
    | (refine AWP.condT ?_ ?_; (focus (simp [go_sem]; done)))
    | (refine AWP.condF ?_ ?_; (focus (simp [go_sem]; done)))
    | (apply AWP.rE; (focus (simp [go_sem]; exact ⟨rfl, rfl⟩)); try dsimp only [thn, inBlk])
    | fail)
  refine AWP.callE (by simp [go_sem]; exact ⟨rfl, rfl, rfl, rfl, rfl⟩) (by kernel_rfl) ?_
  refine (names_calls (q := p) hI.toTI hw k1 (by omega)).mono ?_
  rintro r h5 ⟨a5, c5, rfl, k5⟩
  have hsl : (srt (kids T p)).length = (kids T p).length := by
    show (List.mergeSort _ _).length = _
    rw [List.length_mergeSort]
  have b : ListT O R i T who p (.tuple #[.slice a5 (kids T p).length c5, .int .i64 0]) h5 := by
    unfold ListT
    rw [e0]
    refine ⟨a5, c5, srt (kids T p), by rw [hsl], fun _ => rfl, fun q => absurd rfl q, ?_⟩
    have k6 : Own O h5 (tro i m T ws ++ (txs (.slice a5 (kids T p).length c5) (srt (kids T p)) :: R)) := k5.perm (by
      show (_ :: (tro i m T ws ++ R)).Perm _
      exact List.perm_middle.symm)
    rw [hsl]
    exact (tr_iff.2 ⟨m, ws, hw, k6⟩).b1
  refine awpL_restE (by simp [go_sem]; exact ⟨rfl, rfl⟩) ?_; try dsimp only [thn, inBlk]
  (repeat' first
    | refine AWP.seq ?_
    | refine AWP.block ?_
    | (refine AWP.skip ?_; try dsimp only [thn, inBlk])
    | (refine AWP.exit ?_; try simp only [thn, inBlk, if_true, reduceIte, Nat.reduceEqDiff])
    | (refine AWP.ret ?_; try dsimp only [thn, inBlk])
    | (refine AWP.condT ?_ ?_; (focus (simp [go_sem]; done)))
    | (refine AWP.condF ?_ ?_; (focus (simp [go_sem]; done)))
    | (apply AWP.rE; (focus (simp [go_sem]; exact ⟨rfl, rfl⟩)); try dsimp only [thn, inBlk])
    | fail)
  simp [bodyQ, thn, inBlk, resA, resV, go_sem]
  exact b
/-! ### The names are told alike -/
theorem srt_Sd (l : List (List UInt8)) : Sd (srt l) := by
  have tr : ∀ a b c : List UInt8, leB a b = true → leB b c = true → leB a c = true := fun a b c h1 h2 => by simp only [leB, decide_eq_true_eq] at *; exact List.le_trans h1 h2
  have to : ∀ a b : List UInt8, (leB a b || leB b a) = true := fun a b => by simp only [leB, Bool.or_eq_true, decide_eq_true_eq]; exact List.le_total a b
  refine (List.pairwise_mergeSort tr to l).imp fun {a b} q => ?_
  simp only [leB, decide_eq_true_eq] at q
  exact List.not_lt.2 q
theorem Sd_eq : ∀ {a b : List (List UInt8)}, Sd a → Sd b → a.Perm b → a = b
  | [], b, _, _, h => (List.nil_perm.1 h).symm
  | x :: a, [], _, _, h => by have := h.length_eq; simp at this
  | x :: a, y :: b, ha, hb, h => by
    unfold Sd at ha hb
    rw [List.pairwise_cons] at ha hb
    have hxy : x = y := by
      have hx : x ∈ y :: b := h.mem_iff.1 (by simp)
      have hy : y ∈ x :: a := h.mem_iff.2 (by simp)
      rcases List.mem_cons.1 hx with e | e
      · exact e
      · rcases List.mem_cons.1 hy with e2 | e2
        · exact e2.symm
        · rcases lt_trich x y with q | q | q
          · exact absurd q (hb.1 x e)
          · exact q
          · exact absurd q (ha.1 y e2)
    subst hxy
    rw [Sd_eq ha.2 hb.2 ((List.perm_cons x).1 h)]
set_option maxHeartbeats 4000000 in
theorem snames_calls {v1 v2 : Value} {S : List (List UInt8)} (b1 : Sl 1 h v1 S.length (S.map Ab.T)) (b2 : Sl 1 h v2 S.length (S.map Ab.T)) (hm : S.length ≤ 1000000) :
    ACalls Tryd.prog 56 #[v1, v2] h fun v h' => v = .bool true ∧ h' = h := by
  obtain ⟨xa, xc, rfl⟩ := b1.val
  obtain ⟨ya, yc, rfl⟩ := b2.val
  refine ACalls.of_awp (args := [.slice xa S.length xc, .slice ya S.length yc]) (n := 26) Tryd.func56 rfl rfl (by show 2 ≤ 26; omega) ?_
  (repeat' first
    | refine AWP.seq ?_
    | refine AWP.block ?_
    | (refine AWP.skip ?_; try dsimp only [thn, inBlk])
    | (refine AWP.exit ?_; try simp only [thn, inBlk, if_true, reduceIte, Nat.reduceEqDiff])
    | (refine AWP.ret ?_; try dsimp only [thn, inBlk])
    | (refine AWP.condT ?_ ?_; (focus (simp [go_sem]; done)))
    | (refine AWP.condF ?_ ?_; (focus (simp [go_sem]; done)))
    | (apply AWP.rE; (focus (simp [go_sem]; exact ⟨rfl, rfl⟩)); try dsimp only [thn, inBlk])
    | (apply AWP.dE hmix [.n 0 [0], .n 1 [5], .n 2 [16, 17], .n 3 [18], .n 4 [1], .n 5 [5], .n 6 [20, 21], .n 7 [22], .n 8 [19, 23]]; (focus kernel_rfl); (focus (simp [go_sem]; exact ⟨rfl, rfl⟩)); try dsimp only [thn, inBlk])
    | fail)
  refine AWP.loopR [0, 1, 12, 13] (fun m s h' => ∃ j : Nat, j ≤ S.length ∧ m = S.length - j ∧ s = ⟨26, [(0, .slice xa S.length xc), (1, .slice ya S.length yc), (12, .int .i64 S.length), (13, .int .i64 j)]⟩ ∧ h' = h) ?_ ?_
  · exact ⟨_, 0, by omega, rfl, rfl, rfl⟩
  rintro m s h' ⟨j, hj, rfl, rfl, rfl⟩
  by_cases hj0 : j < S.length
  rotate_left
  · have hj1 : ¬ (j : Int) < S.length := by omega
    (repeat' first
      | refine AWP.seq ?_
      | refine AWP.block ?_
      | (refine AWP.skip ?_; try dsimp only [thn, inBlk])
      | (refine AWP.exit ?_; try simp only [thn, inBlk, if_true, reduceIte, Nat.reduceEqDiff])
      | (refine AWP.ret ?_; try dsimp only [thn, inBlk])
      | (refine AWP.condT ?_ ?_; (focus (simp [go_sem, hj1]; done)))
      | (refine AWP.condF ?_ ?_; (focus (simp [go_sem, hj1]; done)))
      | (apply AWP.rE; (focus (simp [go_sem, hj1]; exact ⟨rfl, rfl⟩)); try dsimp only [thn, inBlk])
      | (apply AWP.dE hmix [.n 0 [0], .n 1 [5], .n 2 [16, 17], .n 3 [18], .n 4 [1], .n 5 [5], .n 6 [20, 21], .n 7 [22], .n 8 [19, 23]]; (focus kernel_rfl); (focus (simp [go_sem, hj1]; exact ⟨rfl, rfl⟩)); try dsimp only [thn, inBlk])
      | fail)
    simp [bodyQ, thn, inBlk, resA, resV, go_sem]
  have hj1 : (j : Int) < S.length := by omega
  have w1 : IntKind.i64.wrap ((j : Int) + 1) = ((j + 1 : Nat) : Int) := by rw [wI64 (by omega) (by omega)]; omega
  have hsj := lt_ptr hj0
  obtain ⟨i1, o1, c1, _, _, _, _, p1, q1, r1⟩ := b1.at1 (P := Tryd.prog) (t := 69) Tryd.underlying69 tsz9 hj0 hsj (kd := .i64)
  obtain ⟨i2, o2, c2, _, _, _, _, p2, q2, r2⟩ := b2.at1 (P := Tryd.prog) (t := 69) Tryd.underlying69 tsz9 hj0 hsj (kd := .i64)
  generalize S[j] = x at *
  (repeat' first
    | refine AWP.seq ?_
    | refine AWP.block ?_
    | (refine AWP.skip ?_; try dsimp only [thn, inBlk])
    | (refine AWP.exit ?_; try simp only [thn, inBlk, if_true, reduceIte, Nat.reduceEqDiff])
    | (refine AWP.ret ?_; try dsimp only [thn, inBlk])
    | (refine AWP.condT ?_ ?_; (focus (simp [go_sem, hj1, p1, q1, r1, p2, q2, r2, w1]; done)))
    | (refine AWP.condF ?_ ?_; (focus (simp [go_sem, hj1, p1, q1, r1, p2, q2, r2, w1]; done)))
    | (apply AWP.rE; (focus (simp [go_sem, hj1, p1, q1, r1, p2, q2, r2, w1]; exact ⟨rfl, rfl⟩)); try dsimp only [thn, inBlk])
    | (apply AWP.dE hmix [.n 0 [0], .n 1 [5], .n 2 [16, 17], .n 3 [18], .n 4 [1], .n 5 [5], .n 6 [20, 21], .n 7 [22], .n 8 [19, 23]]; (focus kernel_rfl); (focus (simp [go_sem, hj1, p1, q1, r1, p2, q2, r2, w1]; exact ⟨rfl, rfl⟩)); try dsimp only [thn, inBlk])
    | fail)
  exact ⟨S.length - (j + 1), by omega, j + 1, by omega, rfl, by simp [go_sem], rfl⟩
end
end L19
