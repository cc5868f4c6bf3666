import Derived.Test.YteodcjamnfoidaaDoorL19zn
open Go Ab Go.Proofs
namespace L19
set_option autoImplicit false
set_option linter.unusedSimpArgs false
set_option linter.unusedVariables false
section
variable {O : Old} {h : AHeap} {R : List Chunk} {i : Nat} {xs : TL} {zs : List NZ}
abbrev zN : NZ := (([], ⟨false, [], 0, []⟩), (none, 0))
theorem find_get {who p : List UInt8} (hc : findE xs who p = 0) : ∃ nd, get xs p = some nd := by
  unfold findE at hc
  split at hc
  · cases hq : get xs p with
    | none => rw [hq] at hc; cases hc
    | some nd => exact ⟨nd, rfl⟩
  · contradiction
theorem node_z {p : List UInt8} {nd : Nd} {q : Nat} (hz : zs.map (·.1) = xs) (hq : xs[q]? = some (p, nd)) : ∃ z : NZ, zs[q]? = some z ∧ z.1 = (p, nd) := by
  rw [← hz, List.getElem?_map, Option.map_eq_some_iff] at hq; exact hq
def StatP (O : Old) (R : List Chunk) (i : Nat) (v : Value) (zs : List NZ) (xs : TL) (who p : List UInt8) (r : Value) (h' : AHeap) : Prop :=
  ∃ z : NZ, r = .tuple #[.agg (nz z).toArray, .int .i64 (findE xs who p)] ∧ ((findE xs who p = 0 ∧ z ∈ zs ∧ z.1.1 = p ∧ get xs p = some z.1.2) ∨ (findE xs who p ≠ 0 ∧ z = zN)) ∧ Own O h' (cell i (rrow v) :: nzs v zs :: R)
set_option maxHeartbeats 8000000 in
theorem rstat_calls {who p : List UInt8} {v : Value} (hX : RX xs) (hz : zs.map (·.1) = xs) (k : Own O h (cell i (rrow v) :: nzs v zs :: R)) (hp : p.length ≤ 100000) :
    ACalls Tryd.prog 52 #[ptr i, tx who, tx p] h (StatP O R i v zs xs who p) := by
  refine ACalls.of_awp (args := [ptr i, tx who, tx p]) (n := 28) Tryd.func52 rfl rfl (by show 3 ≤ 28; omega) ?_
  have k1 := k.push (.row (nz zN) 43 5 true false)
  have c1 := k1.obj
  (repeat' first
    | refine AWP.seq ?_
    | refine AWP.block ?_
    | (refine AWP.skip ?_; try dsimp only [thn, inBlk])
    | (refine AWP.exit ?_; try simp only [thn, inBlk, if_true, reduceIte, Nat.reduceEqDiff])
    | (refine AWP.ret ?_; try dsimp only [thn, inBlk])
    | (refine AWP.condT ?_ ?_; (focus (simp [go_sem]; done)))
    | (refine AWP.condF ?_ ?_; (focus (simp [go_sem]; done)))
    | (apply AWP.rE; (focus (simp [go_sem]; exact ⟨rfl, rfl⟩)); try dsimp only [thn, inBlk])
    | fail)
  refine AWP.callE (by simp [go_sem]; exact ⟨rfl, rfl, rfl, rfl, rfl⟩) (by kernel_rfl) ?_
  refine (rfind2_calls (who := who) (p := p) hX (hz := hz) k1.b2.b2 hp).mono ?_
  rintro r h2 ⟨rfl, k2⟩
  have c2 := k2.b2.obj
  by_cases hc : findE xs who p = 0
  rotate_left
  · have hc' : (findE xs who p != 0) = true := by simpa using hc
    rw [if_neg hc]
    have k3 := k2.b2.set (.row (nz zN) 43 5 true false)
    have c3 := k3.obj
    have hf : ∀ hh : AHeap, Own O hh (cell i (rrow v) :: nzs v zs :: R) → StatP O R i v zs xs who p (.tuple #[.agg (nz zN).toArray, .int .i64 (findE xs who p)]) hh := fun hh kk => ⟨zN, rfl, .inr ⟨hc, rfl⟩, kk⟩
    generalize findE xs who p = y at *
    refine awpL_restE (by simp [go_sem]; exact ⟨rfl, rfl⟩) ?_; try dsimp only [thn, inBlk]
    (repeat' first
      | refine AWP.seq ?_
      | refine AWP.block ?_
      | (refine AWP.skip ?_; try dsimp only [thn, inBlk])
      | (refine AWP.exit ?_; try simp only [thn, inBlk, if_true, reduceIte, Nat.reduceEqDiff])
      | (refine AWP.ret ?_; try dsimp only [thn, inBlk])
      | (refine AWP.condT ?_ ?_; (focus (simp [go_sem, hc', c2]; done)))
      | (refine AWP.condF ?_ ?_; (focus (simp [go_sem, hc', c2]; done)))
      | (apply AWP.rE; (focus (simp [go_sem, hc', c2]; exact ⟨rfl, rfl⟩)); try dsimp only [thn, inBlk])
      | fail)
    simp [bodyQ, thn, inBlk, resA, resV, go_sem, c3]
    exact hf _ k3.tail
  rw [if_pos hc, hc]
  obtain ⟨nd, hg⟩ := find_get hc
  obtain ⟨q, hq, hqf, hqv⟩ := node_ix hg
  obtain ⟨z, hzq, hz1⟩ := node_z hz hq
  obtain ⟨bi, bo, cc, e', sz, ti, ro, q1, q2, q3, q4, q5⟩ := nz_at k2.b1 hzq (kd := .i64)
  have ci := k2.obj
  rw [hqv]
  have k3 := (k2.b2.set (.row (nz z) 43 5 true false))
  have c3 := k3.obj
  refine awpL_restE (by simp [go_sem]; exact ⟨rfl, rfl⟩) ?_; try dsimp only [thn, inBlk]
  (repeat' first
    | refine AWP.seq ?_
    | refine AWP.block ?_
    | (refine AWP.skip ?_; try dsimp only [thn, inBlk])
    | (refine AWP.exit ?_; try simp only [thn, inBlk, if_true, reduceIte, Nat.reduceEqDiff])
    | (refine AWP.ret ?_; try dsimp only [thn, inBlk])
    | (refine AWP.condT ?_ ?_; (focus (simp [go_sem, ci, c2, q1, q2, q3, q4]; done)))
    | (refine AWP.condF ?_ ?_; (focus (simp [go_sem, ci, c2, q1, q2, q3, q4]; done)))
    | (apply AWP.rE; (focus (simp [go_sem, ci, c2, q1, q2, q3, q4]; exact ⟨rfl, rfl⟩)); try dsimp only [thn, inBlk])
    | fail)
  simp [bodyQ, thn, inBlk, resA, resV, go_sem, c3]
  refine ⟨z, ?_, .inl ⟨hc, List.mem_of_getElem? hzq, by rw [hz1], by rw [hz1]; exact hg⟩, k3.tail⟩
  rw [hc]
theorem cell1 {c : List Value} {o : Nat} {x : List UInt8 × Nd} {a : Option Addr} {cap : Nat} (h : (c.drop o).take 5 = agN x a cap) : c[o + 1]? = some (.bool x.2.dir) := by
  have := congrArg (·[1]?) h
  simp only [List.getElem?_take, List.getElem?_drop] at this
  simpa [agN] using this
theorem cell4 {c : List Value} {o : Nat} {x : List UInt8 × Nd} {a : Option Addr} {cap : Nat} (h : (c.drop o).take 5 = agN x a cap) : c[o + 4]? = some (.slice a x.2.data.length cap) := by
  have := congrArg (·[4]?) h
  simp only [List.getElem?_take, List.getElem?_drop] at this
  simpa [agN] using this
def ReadP (O : Old) (R : List Chunk) (i : Nat) (v : Value) (zs : List NZ) (xs : TL) (who p : List UInt8) (r : Value) (h' : AHeap) : Prop :=
  ∃ a cap, r = .tuple #[.slice a (rdR xs who p).2.length cap, .int .i64 (rdR xs who p).1] ∧ Own O h' (ob 5 (.slice a (rdR xs who p).2.length cap) (rdR xs who p).2 :: cell i (rrow v) :: nzs v zs :: R)
set_option maxHeartbeats 8000000 in
theorem rread_calls {who p : List UInt8} {v : Value} (hX : RX xs) (hz : zs.map (·.1) = xs) (hdl : ∀ x ∈ xs, x.2.data.length ≤ 1000) (hB : ∀ z ∈ zs, ∀ hh, Own O hh R → Bytes hh (.slice z.2.1 z.1.2.data.length z.2.2) z.1.2.data) (k : Own O h (cell i (rrow v) :: nzs v zs :: R)) (hp : p.length ≤ 100000) :
    ACalls Tryd.prog 53 #[ptr i, tx who, tx p] h (ReadP O R i v zs xs who p) := by
  refine ACalls.of_awp (args := [ptr i, tx who, tx p]) (n := 51) Tryd.func53 rfl rfl (by show 3 ≤ 51; omega) ?_
  (repeat' first
    | refine AWP.seq ?_
    | refine AWP.block ?_
    | (refine AWP.skip ?_; try dsimp only [thn, inBlk])
    | (refine AWP.exit ?_; try simp only [thn, inBlk, if_true, reduceIte, Nat.reduceEqDiff])
    | (refine AWP.ret ?_; try dsimp only [thn, inBlk])
    | (refine AWP.condT ?_ ?_; (focus (simp [go_sem]; done)))
    | (refine AWP.condF ?_ ?_; (focus (simp [go_sem]; done)))
    | (apply AWP.rE; (focus (simp [go_sem]; exact ⟨rfl, rfl⟩)); try dsimp only [thn, inBlk])
    | fail)
  refine AWP.callE (by simp [go_sem]; exact ⟨rfl, rfl, rfl, rfl, rfl⟩) (by kernel_rfl) ?_
  refine (rfind2_calls (who := who) (p := p) hX (hz := hz) k hp).mono ?_
  rintro r h2 ⟨rfl, k2⟩
  have bad : ∀ (y : Int), rdR xs who p = (y, []) → ∀ {hh : AHeap}, Own O hh (cell i (rrow v) :: nzs v zs :: R) → ReadP O R i v zs xs who p (.tuple #[.slice (some ⟨hh.next, 0, none⟩) 0 0, .int .i64 y]) (hh.push (.row [] 5 1 true false)) := fun y e {hh} kk => by
    have k3 : Own O _ (ob 5 (.slice (some ⟨hh.next, 0, none⟩) 0 0) [] :: cell i (rrow v) :: nzs v zs :: R) := (kk.push (.row [] 5 1 true false)).row_any (n := 0) rfl
    unfold ReadP
    rw [e]
    exact ⟨some ⟨hh.next, 0, none⟩, 0, rfl, k3⟩
  by_cases hc : findE xs who p = 0
  rotate_left
  · have hc' : (findE xs who p != 0) = true := by simpa using hc
    have e : rdR xs who p = (findE xs who p, []) := by unfold rdR; rw [if_neg hc]
    rw [if_neg hc]
    have b := bad _ e k2
    generalize findE xs who p = y at *
    refine awpL_restE (by simp [go_sem]; exact ⟨rfl, rfl⟩) ?_; try dsimp only [thn, inBlk]
    (repeat' first
      | refine AWP.seq ?_
      | refine AWP.block ?_
      | (refine AWP.skip ?_; try dsimp only [thn, inBlk])
      | (refine AWP.exit ?_; try simp only [thn, inBlk, if_true, reduceIte, Nat.reduceEqDiff])
      | (refine AWP.ret ?_; try dsimp only [thn, inBlk])
      | (refine AWP.condT ?_ ?_; (focus (simp [go_sem, hc']; done)))
      | (refine AWP.condF ?_ ?_; (focus (simp [go_sem, hc']; done)))
      | (apply AWP.rE; (focus (simp [go_sem, hc']; exact ⟨rfl, rfl⟩)); try dsimp only [thn, inBlk])
      | fail)
    simp [bodyQ, thn, inBlk, resA, resV, go_sem]
    exact b
  rw [if_pos hc, hc]
  obtain ⟨nd, hg⟩ := find_get hc
  obtain ⟨q, hq, hqf, hqv⟩ := node_ix hg
  obtain ⟨z, hzq, hz1⟩ := node_z hz hq
  obtain ⟨bi, bo, cc, e', sz, ti, ro, q1, q2, q3, q4, q5⟩ := nz_at k2.b1 hzq (kd := .i64)
  have ci := k2.obj
  have q6 := cell1 (x := z.1) (a := z.2.1) (cap := z.2.2) q4
  have q7 := cell4 (x := z.1) (a := z.2.1) (cap := z.2.2) q4
  have e0 : rdR xs who p = if nd.dir = true then (113, []) else if may who nd 4 = false then (114, []) else (0, nd.data) := by
    unfold rdR; rw [if_pos hc, hg]
  have hBz := hB z (List.mem_of_getElem? hzq)
  obtain ⟨zx, za, zc⟩ := z
  dsimp only at hz1 q6 q7 hBz
  subst hz1
  rw [hqv]
  cases hdir : nd.dir
  rotate_left
  · rw [hdir, if_pos rfl] at e0
    have b := bad _ e0 k2
    dsimp only at q6
    rw [hdir] at q6
    refine awpL_restE (by simp [go_sem]; exact ⟨rfl, rfl⟩) ?_; try dsimp only [thn, inBlk]
    (repeat' first
      | refine AWP.seq ?_
      | refine AWP.block ?_
      | (refine AWP.skip ?_; try dsimp only [thn, inBlk])
      | (refine AWP.exit ?_; try simp only [thn, inBlk, if_true, reduceIte, Nat.reduceEqDiff])
      | (refine AWP.ret ?_; try dsimp only [thn, inBlk])
      | (refine AWP.condT ?_ ?_; (focus (simp [go_sem, ci, q1, q2, q6]; done)))
      | (refine AWP.condF ?_ ?_; (focus (simp [go_sem, ci, q1, q2, q6]; done)))
      | (apply AWP.rE; (focus (simp [go_sem, ci, q1, q2, q6]; exact ⟨rfl, rfl⟩)); try dsimp only [thn, inBlk])
      | fail)
    simp [bodyQ, thn, inBlk, resA, resV, go_sem]
    exact b
  rw [hdir, if_neg (by decide)] at e0
  dsimp only at q6
  rw [hdir] at q6
  refine awpL_restE (by simp [go_sem]; exact ⟨rfl, rfl⟩) ?_; try dsimp only [thn, inBlk]
  (repeat' first
    | refine AWP.seq ?_
    | refine AWP.block ?_
    | (refine AWP.skip ?_; try dsimp only [thn, inBlk])
    | (refine AWP.exit ?_; try simp only [thn, inBlk, if_true, reduceIte, Nat.reduceEqDiff])
    | (refine AWP.ret ?_; try dsimp only [thn, inBlk])
    | (refine AWP.condT ?_ ?_; (focus (simp [go_sem, ci, q1, q2, q6]; done)))
    | (refine AWP.condF ?_ ?_; (focus (simp [go_sem, ci, q1, q2, q6]; done)))
    | (apply AWP.rE; (focus (simp [go_sem, ci, q1, q2, q6]; exact ⟨rfl, rfl⟩)); try dsimp only [thn, inBlk])
    | fail)
  refine AWP.callE (by simp [go_sem, ci, q1, q2, q3, q4]; exact ⟨rfl, rfl, rfl, rfl, rfl⟩) (by kernel_rfl) ?_
  refine (rmay_calls (who := who) (x := (p, nd)) (a := za) (cap := zc) (bit := 4) k2 (hX.mode hq) (by simp)).mono ?_
  rintro r h7 ⟨rfl, k7⟩
  dsimp only
  cases hmay : may who nd 4
  · rw [hmay, if_pos rfl] at e0
    have b := bad _ e0 k7
    refine awpL_restE (by simp [go_sem]; exact ⟨rfl, rfl⟩) ?_; try dsimp only [thn, inBlk]
    (repeat' first
      | refine AWP.seq ?_
      | refine AWP.block ?_
      | (refine AWP.skip ?_; try dsimp only [thn, inBlk])
      | (refine AWP.exit ?_; try simp only [thn, inBlk, if_true, reduceIte, Nat.reduceEqDiff])
      | (refine AWP.ret ?_; try dsimp only [thn, inBlk])
      | (refine AWP.condT ?_ ?_; (focus (simp [go_sem]; done)))
      | (refine AWP.condF ?_ ?_; (focus (simp [go_sem]; done)))
      | (apply AWP.rE; (focus (simp [go_sem]; exact ⟨rfl, rfl⟩)); try dsimp only [thn, inBlk])
      | fail)
    simp [bodyQ, thn, inBlk, resA, resV, go_sem]
    exact b
  rw [hmay, if_neg (by decide)] at e0
  have hdl1 := hdl _ (List.mem_of_getElem? hq)
  dsimp only at hdl1 q7 hBz
  obtain ⟨a9, n9, h9, e9, k9⟩ := k7.copy (P := Tryd.prog) (t := 22) (xt := 22) (xv := .slice za nd.data.length zc) (xs := nd.data) (i := h7.next) Tryd.underlying22 tsz5 tby5 tz5 nI22 (fun hh kk => hBz hh kk.tail.tail) (by omega) rfl
  obtain ⟨bi2, bo2, cc2, e2', sz2, ti2, ro2, r1, r2, r3, r4, r5⟩ := nz_at (k7.push (.row [] 5 1 true false)).b2 hzq (kd := .i64)
  have r7 := cell4 (x := (p, nd)) (a := za) (cap := zc) r4
  have ci7 := (k7.push (.row [] 5 1 true false)).b1.obj
  have ci8 := k7.obj
  have b : ReadP O R i v zs xs who p (.tuple #[.slice a9 nd.data.length n9, .int .i64 0]) h9 := by
    unfold ReadP; rw [e0]; exact ⟨a9, n9, rfl, k9⟩
  refine awpL_restE (by simp [go_sem]; exact ⟨rfl, rfl⟩) ?_; try dsimp only [thn, inBlk]
  (repeat' first
    | refine AWP.seq ?_
    | refine AWP.block ?_
    | (refine AWP.skip ?_; try dsimp only [thn, inBlk])
    | (refine AWP.exit ?_; try simp only [thn, inBlk, if_true, reduceIte, Nat.reduceEqDiff])
    | (refine AWP.ret ?_; try dsimp only [thn, inBlk])
    | (refine AWP.condT ?_ ?_; (focus (simp [go_sem, ci7, ci8, r1, r2, r7, e9]; done)))
    | (refine AWP.condF ?_ ?_; (focus (simp [go_sem, ci7, ci8, r1, r2, r7, e9]; done)))
    | (apply AWP.rE; (focus (simp [go_sem, ci7, ci8, r1, r2, r7, e9]; exact ⟨rfl, rfl⟩)); try dsimp only [thn, inBlk])
    | fail)
  simp [bodyQ, thn, inBlk, resA, resV, go_sem]
  exact b
def lsE (xs : TL) (who p : List UInt8) : Int := if findE xs who p = 0 then match get xs p with
    | some nd => if nd.dir = false then 112 else if may who nd 4 = false then 114 else 0
    | none => 0
  else findE xs who p
def ListP (O : Old) (R : List Chunk) (i : Nat) (v : Value) (zs : List NZ) (xs : TL) (who p : List UInt8) (r : Value) (h' : AHeap) : Prop :=
  ∃ a cap S, r = .tuple #[.slice a S.length cap, .int .i64 (lsE xs who p)] ∧ (lsE xs who p = 0 → S.Perm (kids xs p) ∧ Sd S) ∧ (lsE xs who p ≠ 0 → S = []) ∧ Own O h' (txs (.slice a S.length cap) S :: cell i (rrow v) :: nzs v zs :: R)
set_option maxHeartbeats 8000000 in
theorem rlist_calls {who p : List UInt8} {v : Value} (hX : RX xs) (hP : ∀ x ∈ xs, pathB x.1 = true ∧ x.1.length ≤ 100000) (hz : zs.map (·.1) = xs) (k : Own O h (cell i (rrow v) :: nzs v zs :: R)) (hp : p.length ≤ 100000) :
    ACalls Tryd.prog 55 #[ptr i, tx who, tx p] h (ListP O R i v zs xs who p) := by
  refine ACalls.of_awp (args := [ptr i, tx who, tx p]) (n := 45) Tryd.func55 rfl rfl (by show 3 ≤ 45; omega) ?_
  (repeat' first
    | refine AWP.seq ?_
    | refine AWP.block ?_
    | (refine AWP.skip ?_; try dsimp only [thn, inBlk])
    | (refine AWP.exit ?_; try simp only [thn, inBlk, if_true, reduceIte, Nat.reduceEqDiff])
    | (refine AWP.ret ?_; try dsimp only [thn, inBlk])
    | (refine AWP.condT ?_ ?_; (focus (simp [go_sem]; done)))
    | (refine AWP.condF ?_ ?_; (focus (simp [go_sem]; done)))
    | (apply AWP.rE; (focus (simp [go_sem]; exact ⟨rfl, rfl⟩)); try dsimp only [thn, inBlk])
    | fail)
  refine AWP.callE (by simp [go_sem]; exact ⟨rfl, rfl, rfl, rfl, rfl⟩) (by kernel_rfl) ?_
  refine (rfind2_calls (who := who) (p := p) hX (hz := hz) k hp).mono ?_
  rintro r h2 ⟨rfl, k2⟩
  have bad : ∀ (y : Int), lsE xs who p = y → y ≠ 0 → ∀ {hh : AHeap}, Own O hh (cell i (rrow v) :: nzs v zs :: R) → ListP O R i v zs xs who p (.tuple #[.slice (some ⟨hh.next, 0, none⟩) 0 0, .int .i64 y]) (hh.push (.row [] 9 1 true false)) := fun y e hy {hh} kk => by
    have k3 : Own O _ (txs (.slice (some ⟨hh.next, 0, none⟩) 0 0) [] :: cell i (rrow v) :: nzs v zs :: R) := (kk.push (.row [] 9 1 true false)).row_any (n := 0) rfl
    unfold ListP
    rw [e]
    exact ⟨some ⟨hh.next, 0, none⟩, 0, [], rfl, fun q => absurd q hy, fun _ => rfl, k3⟩
  by_cases hc : findE xs who p = 0
  rotate_left
  · have hc' : (findE xs who p != 0) = true := by simpa using hc
    have e : lsE xs who p = findE xs who p := by unfold lsE; rw [if_neg hc]
    rw [if_neg hc]
    have b := bad _ e hc k2
    generalize findE xs who p = y at *
    refine awpL_restE (by simp [go_sem]; exact ⟨rfl, rfl⟩) ?_; try dsimp only [thn, inBlk]
    (repeat' first
      | refine AWP.seq ?_
      | refine AWP.block ?_
      | (refine AWP.skip ?_; try dsimp only [thn, inBlk])
      | (refine AWP.exit ?_; try simp only [thn, inBlk, if_true, reduceIte, Nat.reduceEqDiff])
      | (refine AWP.ret ?_; try dsimp only [thn, inBlk])
      | (refine AWP.condT ?_ ?_; (focus (simp [go_sem, hc']; done)))
      | (refine AWP.condF ?_ ?_; (focus (simp [go_sem, hc']; done)))
      | (apply AWP.rE; (focus (simp [go_sem, hc']; exact ⟨rfl, rfl⟩)); try dsimp only [thn, inBlk])
      | fail)
    simp [bodyQ, thn, inBlk, resA, resV, go_sem]
    exact b
  rw [if_pos hc, hc]
  obtain ⟨nd, hg⟩ := find_get hc
  obtain ⟨q, hq, hqf, hqv⟩ := node_ix hg
  obtain ⟨bi, bo, cc, e', sz, ti, ro, a, cap, q1, q2, q3, q4, q5⟩ := nzs_row hz k2.b1 hq (kd := .i64)
  have ci := k2.obj
  have q6 := cell1 q4
  dsimp only at q6
  have e0 : lsE xs who p = if nd.dir = false then 112 else if may who nd 4 = false then 114 else 0 := by
    unfold lsE; rw [if_pos hc, hg]
  rw [hqv]
  cases hdir : nd.dir
  · rw [hdir, if_pos rfl] at e0
    have b := bad _ e0 (by decide) k2
    rw [hdir] at q6
    refine awpL_restE (by simp [go_sem]; exact ⟨rfl, rfl⟩) ?_; try dsimp only [thn, inBlk]
    (repeat' first
      | refine AWP.seq ?_
      | refine AWP.block ?_
      | (refine AWP.skip ?_; try dsimp only [thn, inBlk])
      | (refine AWP.exit ?_; try simp only [thn, inBlk, if_true, reduceIte, Nat.reduceEqDiff])
      | (refine AWP.ret ?_; try dsimp only [thn, inBlk])
      | (refine AWP.condT ?_ ?_; (focus (simp [go_sem, ci, q1, q2, q6]; done)))
      | (refine AWP.condF ?_ ?_; (focus (simp [go_sem, ci, q1, q2, q6]; done)))
      | (apply AWP.rE; (focus (simp [go_sem, ci, q1, q2, q6]; exact ⟨rfl, rfl⟩)); try dsimp only [thn, inBlk])
      | fail)
    simp [bodyQ, thn, inBlk, resA, resV, go_sem]
    exact b
  rw [hdir, if_neg (by decide)] at e0
  rw [hdir] at q6
  refine awpL_restE (by simp [go_sem]; exact ⟨rfl, rfl⟩) ?_; try dsimp only [thn, inBlk]
  (repeat' first
    | refine AWP.seq ?_
    | refine AWP.block ?_
    | (refine AWP.skip ?_; try dsimp only [thn, inBlk])
    | (refine AWP.exit ?_; try simp only [thn, inBlk, if_true, reduceIte, Nat.reduceEqDiff])
    | (refine AWP.ret ?_; try dsimp only [thn, inBlk])
    | (refine AWP.condT ?_ ?_; (focus (simp [go_sem, ci, q1, q2, q6]; done)))
    | (refine AWP.condF ?_ ?_; (focus (simp [go_sem, ci, q1, q2, q6]; done)))
    | (apply AWP.rE; (focus (simp [go_sem, ci, q1, q2, q6]; exact ⟨rfl, rfl⟩)); try dsimp only [thn, inBlk])
    | fail)
  refine AWP.callE (by simp [go_sem, ci, q1, q2, q3, q4]; exact ⟨rfl, rfl, rfl, rfl, rfl⟩) (by kernel_rfl) ?_
  refine (rmay_calls (who := who) (x := (p, nd)) (a := a) (cap := cap) (bit := 4) k2 (hX.mode hq) (by simp)).mono ?_
  rintro r h7 ⟨rfl, k7⟩
  dsimp only
  cases hmay : may who nd 4
  · rw [hmay, if_pos rfl] at e0
    have b := bad _ e0 (by decide) k7
    refine awpL_restE (by simp [go_sem]; exact ⟨rfl, rfl⟩) ?_; try dsimp only [thn, inBlk]
    (repeat' first
      | refine AWP.seq ?_
      | refine AWP.block ?_
      | (refine AWP.skip ?_; try dsimp only [thn, inBlk])
      | (refine AWP.exit ?_; try simp only [thn, inBlk, if_true, reduceIte, Nat.reduceEqDiff])
      | (refine AWP.ret ?_; try dsimp only [thn, inBlk])
      | (refine AWP.condT ?_ ?_; (focus (simp [go_sem]; done)))
      | (refine AWP.condF ?_ ?_; (focus (simp [go_sem]; done)))
      | (apply AWP.rE; (focus (simp [go_sem]; exact ⟨rfl, rfl⟩)); try dsimp only [thn, inBlk])
      | fail)
    simp [bodyQ, thn, inBlk, resA, resV, go_sem]
    exact b
  rw [hmay, if_neg (by decide)] at e0
  refine awpL_restE (by simp [go_sem]; exact ⟨rfl, rfl⟩) ?_; try dsimp only [thn, inBlk]
  (repeat' first
    | refine AWP.seq ?_
    | refine AWP.block ?_
    | (refine AWP.skip ?_; try dsimp only [thn, inBlk])
    | (refine AWP.exit ?_; try simp only [thn, inBlk, if_true, reduceIte, Nat.reduceEqDiff])
    | (refine AWP.ret ?_; try dsimp only [thn, inBlk])
    | (refine AWP.condT ?_ ?_; (focus (simp [go_sem]; done)))
    | (refine AWP.condF ?_ ?_; (focus (simp [go_sem]; done)))
    | (apply AWP.rE; (focus (simp [go_sem]; exact ⟨rfl, rfl⟩)); try dsimp only [thn, inBlk])
    | fail)
  refine AWP.callE (by simp [go_sem]; exact ⟨rfl, rfl, rfl, rfl, rfl⟩) (by kernel_rfl) ?_
  refine (rnames2_calls (q := p) hX hP (hz := hz) k7).mono ?_
  rintro r h9 ⟨a9, c9, S, rfl, hS1, hS2, k9⟩
  have b : ListP O R i v zs xs who p (.tuple #[.slice a9 S.length c9, .int .i64 0]) h9 := by
    unfold ListP; rw [e0]; exact ⟨a9, c9, S, rfl, fun _ => ⟨hS1, hS2⟩, fun q => absurd rfl q, k9⟩
  refine awpL_restE (by simp [go_sem]; exact ⟨rfl, rfl⟩) ?_; try dsimp only [thn, inBlk]
  (repeat' first
    | refine AWP.seq ?_
    | refine AWP.block ?_
    | (refine AWP.skip ?_; try dsimp only [thn, inBlk])
    | (refine AWP.exit ?_; try simp only [thn, inBlk, if_true, reduceIte, Nat.reduceEqDiff])
    | (refine AWP.ret ?_; try dsimp only [thn, inBlk])
    | (refine AWP.condT ?_ ?_; (focus (simp [go_sem]; done)))
    | (refine AWP.condF ?_ ?_; (focus (simp [go_sem]; done)))
    | (apply AWP.rE; (focus (simp [go_sem]; exact ⟨rfl, rfl⟩)); try dsimp only [thn, inBlk])
    | fail)
  simp [bodyQ, thn, inBlk, resA, resV, go_sem]
  exact b
end
end L19
