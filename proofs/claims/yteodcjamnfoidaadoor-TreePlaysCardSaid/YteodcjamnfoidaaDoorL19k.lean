import Derived.Test.YteodcjamnfoidaaDoorL19j
open Go Ab Go.Proofs
namespace L19
set_option autoImplicit false
set_option linter.unusedSimpArgs false
set_option linter.unusedVariables false

def findE (T : TL) (who p : List UInt8) : Int := if comeE T who p = 0 then (if (get T p).isSome then 0 else 110) else comeE T who p
def rdR (T : TL) (who p : List UInt8) : Int × List UInt8 :=
  if findE T who p = 0 then match get T p with
    | none => (0, [])
    | some nd => if nd.dir = true then (113, []) else if may who nd 4 = false then (114, []) else (0, nd.data)
  else (findE T who p, [])
def chR (T : TL) (who p : List UInt8) (z : Int) : Int × TL :=
  if comeE T who p = 0 then
    if rightB z = false then (1, T) else match get T p with
      | none => (110, T)
      | some nd => if who ≠ rootB ∧ who ≠ nd.own then (114, T) else (0, setN T p { nd with mode := z.toNat })
  else (comeE T who p, T)
def gvR (T : TL) (who p o : List UInt8) : Int × TL :=
  if findE T who p = 0 then if who ≠ rootB then (114, T) else match get T p with
    | none => (0, T)
    | some nd => (0, setN T p { nd with own := o })
  else (findE T who p, T)
section
variable {O : Old} {h : AHeap} {R : List Chunk} {i m : Nat} {T : TL} {ws : List Wd}
set_option maxHeartbeats 4000000 in
theorem find_calls {who p : List UInt8} (hI : TI T) (hw : ws.length = T.length) (k : Own O h (tro i m T ws ++ R)) (hp : p.length ≤ 900000) :
    ACalls Tryd.prog 34 #[ptr i, tx who, tx p] h fun r h' => r = .tuple #[if comeE T who p = 0 then pv T ws p else .pointer none, .int .i64 (findE T who p)] ∧ Own O h' (tro i m T ws ++ R) := by
  refine ACalls.of_awp (args := [ptr i, tx who, tx p]) (n := 25) Tryd.func34 rfl rfl (by show 3 ≤ 25; omega) ?_
  (repeat' first
    | refine AWP.seq ?_
    | refine AWP.block ?_
    | (refine AWP.skip ?_; try dsimp only [thn, inBlk])
    | (refine AWP.exit ?_; try simp only [thn, inBlk, if_true, reduceIte, Nat.reduceEqDiff])
    | (refine AWP.ret ?_; try dsimp only [thn, inBlk])
    | (refine AWP.condT ?_ ?_; (focus (simp [go_sem]; done)))
    | (refine AWP.condF ?_ ?_; (focus (simp [go_sem]; done)))
    | (apply AWP.rE; (focus (simp [go_sem]; exact ⟨rfl, rfl⟩)); try dsimp only [thn, inBlk])
    | fail)
  refine AWP.callE (by simp [go_sem]; exact ⟨rfl, rfl, rfl, rfl, rfl⟩) (by kernel_rfl) ?_
  refine (come_calls (who := who) hI hw k hp).mono ?_
  rintro r h1 ⟨rfl, k1⟩
  by_cases hc : comeE T who p = 0
  rotate_left
  · have hc' : (comeE T who p == 0) = false := by simpa using hc
    have e : findE T who p = comeE T who p := by simp [findE, hc]
    rw [if_neg hc, e]
    refine awpL_restE (by simp [go_sem]; exact ⟨rfl, rfl⟩) ?_; try dsimp only [thn, inBlk]
    (repeat' first
      | refine AWP.seq ?_
      | refine AWP.block ?_
      | (refine AWP.skip ?_; try dsimp only [thn, inBlk])
      | (refine AWP.exit ?_; try simp only [thn, inBlk, if_true, reduceIte, Nat.reduceEqDiff])
      | (refine AWP.ret ?_; try dsimp only [thn, inBlk])
      | (refine AWP.condT ?_ ?_; (focus (simp [go_sem, hc']; done)))
      | (refine AWP.condF ?_ ?_; (focus (simp [go_sem, hc']; done)))
      | (apply AWP.rE; (focus (simp [go_sem, hc']; exact ⟨rfl, rfl⟩)); try dsimp only [thn, inBlk])
      | fail)
    simp [bodyQ, thn, inBlk, resA, resV, go_sem]
    exact k1
  rw [if_pos hc, hc]
  cases hg : get T p with
  | none =>
    have e : findE T who p = 110 := by simp [findE, hc, hg]
    rw [pv_none hg, e]
    refine awpL_restE (by simp [go_sem]; exact ⟨rfl, rfl⟩) ?_; try dsimp only [thn, inBlk]
    (repeat' first
      | refine AWP.seq ?_
      | refine AWP.block ?_
      | (refine AWP.skip ?_; try dsimp only [thn, inBlk])
      | (refine AWP.exit ?_; try simp only [thn, inBlk, if_true, reduceIte, Nat.reduceEqDiff])
      | (refine AWP.ret ?_; try dsimp only [thn, inBlk])
      | (refine AWP.condT ?_ ?_; (focus (simp [go_sem]; done)))
      | (refine AWP.condF ?_ ?_; (focus (simp [go_sem]; done)))
      | (apply AWP.rE; (focus (simp [go_sem]; exact ⟨rfl, rfl⟩)); try dsimp only [thn, inBlk])
      | fail)
    simp [bodyQ, thn, inBlk, resA, resV, go_sem]
    exact k1
  | some nd =>
    obtain ⟨j, w, t1, t2, t3⟩ := pv_some hw hg
    have e : findE T who p = 0 := by simp [findE, hc, hg]
    rw [t3, e]
    refine awpL_restE (by simp [go_sem]; exact ⟨rfl, rfl⟩) ?_; try dsimp only [thn, inBlk]
    (repeat' first
      | refine AWP.seq ?_
      | refine AWP.block ?_
      | (refine AWP.skip ?_; try dsimp only [thn, inBlk])
      | (refine AWP.exit ?_; try simp only [thn, inBlk, if_true, reduceIte, Nat.reduceEqDiff])
      | (refine AWP.ret ?_; try dsimp only [thn, inBlk])
      | (refine AWP.condT ?_ ?_; (focus (simp [go_sem]; done)))
      | (refine AWP.condF ?_ ?_; (focus (simp [go_sem]; done)))
      | (apply AWP.rE; (focus (simp [go_sem]; exact ⟨rfl, rfl⟩)); try dsimp only [thn, inBlk])
      | fail)
    simp [bodyQ, thn, inBlk, resA, resV, go_sem]
    exact k1

set_option maxHeartbeats 8000000 in
theorem read_calls {who p : List UInt8} (hI : TK T) (k : Own O h (tr i T :: R)) (hp : p.length ≤ 900000) :
    ACalls Tryd.prog 13 #[ptr i, tx who, tx p] h fun r h' => ∃ a cap, r = .tuple #[.slice a (rdR T who p).2.length cap, .int .i64 (rdR T who p).1] ∧ Own O h' (ob 5 (.slice a (rdR T who p).2.length cap) (rdR T who p).2 :: tr i T :: R) := by
  obtain ⟨m, ws, hw, k0⟩ := tr_iff.1 k
  refine ACalls.of_awp (args := [ptr i, tx who, tx p]) (n := 36) Tryd.func13 rfl rfl (by show 3 ≤ 36; omega) ?_
  (repeat' first
    | refine AWP.seq ?_
    | refine AWP.block ?_
    | (refine AWP.skip ?_; try dsimp only [thn, inBlk])
    | (refine AWP.exit ?_; try simp only [thn, inBlk, if_true, reduceIte, Nat.reduceEqDiff])
    | (refine AWP.ret ?_; try dsimp only [thn, inBlk])
    | (refine AWP.condT ?_ ?_; (focus (simp [go_sem]; done)))
    | (refine AWP.condF ?_ ?_; (focus (simp [go_sem]; done)))
    | (apply AWP.rE; (focus (simp [go_sem]; exact ⟨rfl, rfl⟩)); try dsimp only [thn, inBlk])
    | fail)
  refine AWP.callE (by simp [go_sem]; exact ⟨rfl, rfl, rfl, rfl, rfl⟩) (by kernel_rfl) ?_
  refine (find_calls (who := who) hI.toTI hw k0 hp).mono ?_
  rintro r h1 ⟨rfl, k1⟩
  have kT := (tr_iff.2 ⟨m, ws, hw, k1⟩).nil 5 1
  by_cases hc : findE T who p = 0
  rotate_left
  · have hc' : (findE T who p != 0) = true := by simpa using hc
    have e : rdR T who p = (findE T who p, []) := by simp [rdR, hc]
    rw [e]
    generalize (if comeE T who p = 0 then pv T ws p else .pointer none) = PV
    refine awpL_restE (by simp [go_sem]; exact ⟨rfl, rfl⟩) ?_; try dsimp only [thn, inBlk]
    (repeat' first
      | refine AWP.seq ?_
      | refine AWP.block ?_
      | (refine AWP.skip ?_; try dsimp only [thn, inBlk])
      | (refine AWP.exit ?_; try simp only [thn, inBlk, if_true, reduceIte, Nat.reduceEqDiff])
      | (refine AWP.ret ?_; try dsimp only [thn, inBlk])
      | (refine AWP.condT ?_ ?_; (focus (simp [go_sem, hc']; done)))
      | (refine AWP.condF ?_ ?_; (focus (simp [go_sem, hc']; done)))
      | (apply AWP.rE; (focus (simp [go_sem, hc']; exact ⟨rfl, rfl⟩)); try dsimp only [thn, inBlk])
      | fail)
    simp [bodyQ, thn, inBlk, resA, resV, go_sem]
    exact ⟨_, _, ⟨rfl, rfl⟩, kT⟩
  have hc0 : comeE T who p = 0 := by
    by_cases h : comeE T who p = 0
    · exact h
    · unfold findE at hc; rw [if_neg h] at hc; exact absurd hc h
  obtain ⟨nd, hg⟩ : ∃ nd, get T p = some nd := by
    unfold findE at hc; rw [if_pos hc0] at hc
    cases hg : get T p with
    | none => rw [hg] at hc; cases hc
    | some nd => exact ⟨nd, rfl⟩
  obtain ⟨j, w, t1, t2, t3, t4⟩ := pv_at hw hg
  have ho : h1.obj w.1 = some (nrow (p, nd) w) := (node_open k1 t1 t2).obj
  have hmd := hI.md _ (List.mem_of_getElem? t1)
  have hdl := hI.dl _ (List.mem_of_getElem? t1)
  dsimp only at hdl
  rw [if_pos hc0, t3, hc]
  cases hdr : nd.dir
  rotate_left
  · have e : rdR T who p = (113, []) := by simp only [rdR, hc, hg, hdr, if_true]
    rw [e]
    refine awpL_restE (by simp [go_sem]; exact ⟨rfl, rfl⟩) ?_; try dsimp only [thn, inBlk]
    (repeat' first
      | refine AWP.seq ?_
      | refine AWP.block ?_
      | (refine AWP.skip ?_; try dsimp only [thn, inBlk])
      | (refine AWP.exit ?_; try simp only [thn, inBlk, if_true, reduceIte, Nat.reduceEqDiff])
      | (refine AWP.ret ?_; try dsimp only [thn, inBlk])
      | (refine AWP.condT ?_ ?_; (focus (simp [go_sem, ho, hdr]; done)))
      | (refine AWP.condF ?_ ?_; (focus (simp [go_sem, ho, hdr]; done)))
      | (apply AWP.rE; (focus (simp [go_sem, ho, hdr]; exact ⟨rfl, rfl⟩)); try dsimp only [thn, inBlk])
      | fail)
    simp [bodyQ, thn, inBlk, resA, resV, go_sem]
    exact ⟨_, _, ⟨rfl, rfl⟩, kT⟩
  refine awpL_restE (by simp [go_sem]; exact ⟨rfl, rfl⟩) ?_; try dsimp only [thn, inBlk]
  (repeat' first
    | refine AWP.seq ?_
    | refine AWP.block ?_
    | (refine AWP.skip ?_; try dsimp only [thn, inBlk])
    | (refine AWP.exit ?_; try simp only [thn, inBlk, if_true, reduceIte, Nat.reduceEqDiff])
    | (refine AWP.ret ?_; try dsimp only [thn, inBlk])
    | (refine AWP.condT ?_ ?_; (focus (simp [go_sem, ho, hdr]; done)))
    | (refine AWP.condF ?_ ?_; (focus (simp [go_sem, ho, hdr]; done)))
    | (apply AWP.rE; (focus (simp [go_sem, ho, hdr]; exact ⟨rfl, rfl⟩)); try dsimp only [thn, inBlk])
    | fail)
  refine AWP.callE (by simp [go_sem]; exact ⟨rfl, rfl, rfl, rfl, rfl⟩) (by kernel_rfl) ?_
  refine (may_calls (who := who) (bit := 4) ho hmd (by omega)).mono ?_
  rintro r h3 ⟨rfl, rfl⟩
  cases hmy : may who nd 4
  · have e : rdR T who p = (114, []) := by simp only [rdR, hc, hg, hdr, hmy, if_true]; rfl
    rw [e]
    refine awpL_restE (by simp [go_sem]; exact ⟨rfl, rfl⟩) ?_; try dsimp only [thn, inBlk]
    (repeat' first
      | refine AWP.seq ?_
      | refine AWP.block ?_
      | (refine AWP.skip ?_; try dsimp only [thn, inBlk])
      | (refine AWP.exit ?_; try simp only [thn, inBlk, if_true, reduceIte, Nat.reduceEqDiff])
      | (refine AWP.ret ?_; try dsimp only [thn, inBlk])
      | (refine AWP.condT ?_ ?_; (focus (simp [go_sem]; done)))
      | (refine AWP.condF ?_ ?_; (focus (simp [go_sem]; done)))
      | (apply AWP.rE; (focus (simp [go_sem]; exact ⟨rfl, rfl⟩)); try dsimp only [thn, inBlk])
      | fail)
    simp [bodyQ, thn, inBlk, resA, resV, go_sem]
    exact ⟨_, _, ⟨rfl, rfl⟩, kT⟩
  have e : rdR T who p = (0, nd.data) := by simp only [rdR, hc, hg, hdr, hmy, if_true]; rfl
  rw [e]
  refine awpL_restE (by simp [go_sem]; exact ⟨rfl, rfl⟩) ?_; try dsimp only [thn, inBlk]
  (repeat' first
    | refine AWP.seq ?_
    | refine AWP.block ?_
    | (refine AWP.skip ?_; try dsimp only [thn, inBlk])
    | (refine AWP.exit ?_; try simp only [thn, inBlk, if_true, reduceIte, Nat.reduceEqDiff])
    | (refine AWP.ret ?_; try dsimp only [thn, inBlk])
    | (refine AWP.condT ?_ ?_; (focus (simp [go_sem]; done)))
    | (refine AWP.condF ?_ ?_; (focus (simp [go_sem]; done)))
    | (apply AWP.rE; (focus (simp [go_sem]; exact ⟨rfl, rfl⟩)); try dsimp only [thn, inBlk])
    | fail)
  refine AWP.callE (by simp [go_sem, ho]; exact ⟨rfl, rfl, rfl, rfl, rfl⟩) (by kernel_rfl) ?_
  refine (clone_calls k1 (fun hh kk => (node_open kk t1 t2).tail.ob_bytes) (by dsimp only; omega)).mono ?_
  rintro r h4 ⟨a9, c9, rfl, k4⟩
  refine awpL_restE (by simp [go_sem]; exact ⟨rfl, rfl⟩) ?_; try dsimp only [thn, inBlk]
  (repeat' first
    | refine AWP.seq ?_
    | refine AWP.block ?_
    | (refine AWP.skip ?_; try dsimp only [thn, inBlk])
    | (refine AWP.exit ?_; try simp only [thn, inBlk, if_true, reduceIte, Nat.reduceEqDiff])
    | (refine AWP.ret ?_; try dsimp only [thn, inBlk])
    | (refine AWP.condT ?_ ?_; (focus (simp [go_sem]; done)))
    | (refine AWP.condF ?_ ?_; (focus (simp [go_sem]; done)))
    | (apply AWP.rE; (focus (simp [go_sem]; exact ⟨rfl, rfl⟩)); try dsimp only [thn, inBlk])
    | fail)
  simp [bodyQ, thn, inBlk, resA, resV, go_sem]
  exact ⟨_, _, ⟨rfl, rfl⟩, (tr_iff.2 ⟨m, ws, hw, k4.perm List.perm_middle.symm⟩).b1⟩
end
end L19
