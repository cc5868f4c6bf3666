import Derived.Test.YtdbonhhdpaklhaaGreatDoorL23fx
import Derived.Test.YtdbonhhdpaklhaaGreatDoorAbLibC
import Derived.Shelf.SlIter.Nil
import Derived.Shelf.SortM.Plain
import Derived.Shelf.SortM.SortNone
import Derived.Ground.GgzProg
import Derived.Ground.SlgmProg
import Derived.Test.YtdbonhhdpaklhaaGreatDoorAbLibE
section
open Go Ab Go.Proofs
namespace L23
set_option autoImplicit false
set_option linter.unusedSimpArgs false
set_option linter.unusedVariables false

def findE (T : TL) (who p : List UInt8) : Int := if comeE T who p = 0 then (if (get T p).isSome then 0 else 110) else comeE T who p
def rdR (T : TL) (who p : List UInt8) : Int × List UInt8 :=
  if findE T who p = 0 then match get T p with
    | none => (0, [])
    | some nd => if nd.dir = true then (113, []) else if may who nd 4 = false then (114, []) else (0, nd.data)
  else (findE T who p, [])
def chR (T : TL) (who p : List UInt8) (z : Int) : Int × TL :=
  if comeE T who p = 0 then
    if rightB z = false then (1, T) else match get T p with
      | none => (110, T)
      | some nd => if who ≠ rootB ∧ who ≠ nd.own then (114, T) else (0, setN T p { nd with mode := z.toNat })
  else (comeE T who p, T)
def gvR (T : TL) (who p o : List UInt8) : Int × TL :=
  if findE T who p = 0 then if who ≠ rootB then (114, T) else match get T p with
    | none => (0, T)
    | some nd => (0, setN T p { nd with own := o })
  else (findE T who p, T)
section
variable {O : Old} {h : AHeap} {R : List Chunk} {i m : Nat} {T : TL} {ws : List Wd}
set_option maxHeartbeats 4000000 in
theorem find_calls {who p : List UInt8} (hI : TI T) (hw : ws.length = T.length) (k : Own O h (tro i m T ws ++ R)) (hp : p.length ≤ 900000) :
    ACalls Tryz.prog 34 #[ptr i, tx who, tx p] h fun r h' => r = .tuple #[if comeE T who p = 0 then pv T ws p else .pointer none, .int .i64 (findE T who p)] ∧ Own O h' (tro i m T ws ++ R) := by
  refine ACalls.of_awp (args := [ptr i, tx who, tx p]) (n := 25) Tryz.func34 rfl rfl (by show 3 ≤ 25; omega) ?_
  (repeat' first
    | refine AWP.seq ?_
    | refine AWP.block ?_
    | (refine AWP.skip ?_; try dsimp only [thn, inBlk])
    | (refine AWP.exit ?_; try simp only [thn, inBlk, if_true, reduceIte, Nat.reduceEqDiff])
    | (refine AWP.ret ?_; try dsimp only [thn, inBlk])
    | (refine AWP.condT ?_ ?_; (focus (simp [go_sem]; done)))
    | (refine AWP.condF ?_ ?_; (focus (simp [go_sem]; done)))
    | (apply AWP.rE; (focus (simp [go_sem]; exact ⟨rfl, rfl⟩)); try dsimp only [thn, inBlk])
    | fail)
  refine AWP.callE (by simp [go_sem]; exact ⟨rfl, rfl, rfl, rfl, rfl⟩) (by kernel_rfl) ?_
  refine (come_calls (who := who) hI hw k hp).mono ?_
  rintro r h1 ⟨rfl, k1⟩
  by_cases hc : comeE T who p = 0
  rotate_left
  · have hc' : (comeE T who p == 0) = false := by simpa using hc
    have e : findE T who p = comeE T who p := by simp [findE, hc]
    rw [if_neg hc, e]
    refine awpL_restE (by simp [go_sem]; exact ⟨rfl, rfl⟩) ?_; try dsimp only [thn, inBlk]
    (repeat' first
      | refine AWP.seq ?_
      | refine AWP.block ?_
      | (refine AWP.skip ?_; try dsimp only [thn, inBlk])
      | (refine AWP.exit ?_; try simp only [thn, inBlk, if_true, reduceIte, Nat.reduceEqDiff])
      | (refine AWP.ret ?_; try dsimp only [thn, inBlk])
      | (refine AWP.condT ?_ ?_; (focus (simp [go_sem, hc']; done)))
      | (refine AWP.condF ?_ ?_; (focus (simp [go_sem, hc']; done)))
      | (apply AWP.rE; (focus (simp [go_sem, hc']; exact ⟨rfl, rfl⟩)); try dsimp only [thn, inBlk])
      | fail)
    simp [bodyQ, thn, inBlk, resA, resV, go_sem]
    exact k1
  rw [if_pos hc, hc]
  cases hg : get T p with
  | none =>
    have e : findE T who p = 110 := by simp [findE, hc, hg]
    rw [pv_none hg, e]
    refine awpL_restE (by simp [go_sem]; exact ⟨rfl, rfl⟩) ?_; try dsimp only [thn, inBlk]
    (repeat' first
      | refine AWP.seq ?_
      | refine AWP.block ?_
      | (refine AWP.skip ?_; try dsimp only [thn, inBlk])
      | (refine AWP.exit ?_; try simp only [thn, inBlk, if_true, reduceIte, Nat.reduceEqDiff])
      | (refine AWP.ret ?_; try dsimp only [thn, inBlk])
      | (refine AWP.condT ?_ ?_; (focus (simp [go_sem]; done)))
      | (refine AWP.condF ?_ ?_; (focus (simp [go_sem]; done)))
      | (apply AWP.rE; (focus (simp [go_sem]; exact ⟨rfl, rfl⟩)); try dsimp only [thn, inBlk])
      | fail)
    simp [bodyQ, thn, inBlk, resA, resV, go_sem]
    exact k1
  | some nd =>
    obtain ⟨j, w, t1, t2, t3⟩ := pv_some hw hg
    have e : findE T who p = 0 := by simp [findE, hc, hg]
    rw [t3, e]
    refine awpL_restE (by simp [go_sem]; exact ⟨rfl, rfl⟩) ?_; try dsimp only [thn, inBlk]
    (repeat' first
      | refine AWP.seq ?_
      | refine AWP.block ?_
      | (refine AWP.skip ?_; try dsimp only [thn, inBlk])
      | (refine AWP.exit ?_; try simp only [thn, inBlk, if_true, reduceIte, Nat.reduceEqDiff])
      | (refine AWP.ret ?_; try dsimp only [thn, inBlk])
      | (refine AWP.condT ?_ ?_; (focus (simp [go_sem]; done)))
      | (refine AWP.condF ?_ ?_; (focus (simp [go_sem]; done)))
      | (apply AWP.rE; (focus (simp [go_sem]; exact ⟨rfl, rfl⟩)); try dsimp only [thn, inBlk])
      | fail)
    simp [bodyQ, thn, inBlk, resA, resV, go_sem]
    exact k1

set_option maxHeartbeats 8000000 in
theorem read_calls {who p : List UInt8} (hI : TK T) (k : Own O h (tr i T :: R)) (hp : p.length ≤ 900000) :
    ACalls Tryz.prog 45 #[ptr i, tx who, tx p] h fun r h' => ∃ a cap, r = .tuple #[.slice a (rdR T who p).2.length cap, .int .i64 (rdR T who p).1] ∧ Own O h' (ob 5 (.slice a (rdR T who p).2.length cap) (rdR T who p).2 :: tr i T :: R) := by
  obtain ⟨m, ws, hw, k0⟩ := tr_iff.1 k
  refine ACalls.of_awp (args := [ptr i, tx who, tx p]) (n := 36) Tryz.func45 rfl rfl (by show 3 ≤ 36; omega) ?_
  (repeat' first
    | refine AWP.seq ?_
    | refine AWP.block ?_
    | (refine AWP.skip ?_; try dsimp only [thn, inBlk])
    | (refine AWP.exit ?_; try simp only [thn, inBlk, if_true, reduceIte, Nat.reduceEqDiff])
    | (refine AWP.ret ?_; try dsimp only [thn, inBlk])
    | (refine AWP.condT ?_ ?_; (focus (simp [go_sem]; done)))
    | (refine AWP.condF ?_ ?_; (focus (simp [go_sem]; done)))
    | (apply AWP.rE; (focus (simp [go_sem]; exact ⟨rfl, rfl⟩)); try dsimp only [thn, inBlk])
    | fail)
  refine AWP.callE (by simp [go_sem]; exact ⟨rfl, rfl, rfl, rfl, rfl⟩) (by kernel_rfl) ?_
  refine (find_calls (who := who) hI.toTI hw k0 hp).mono ?_
  rintro r h1 ⟨rfl, k1⟩
  have kT := (tr_iff.2 ⟨m, ws, hw, k1⟩).nil 5 1
  by_cases hc : findE T who p = 0
  rotate_left
  · have hc' : (findE T who p != 0) = true := by simpa using hc
    have e : rdR T who p = (findE T who p, []) := by simp [rdR, hc]
    rw [e]
    generalize (if comeE T who p = 0 then pv T ws p else .pointer none) = PV
    refine awpL_restE (by simp [go_sem]; exact ⟨rfl, rfl⟩) ?_; try dsimp only [thn, inBlk]
    (repeat' first
      | refine AWP.seq ?_
      | refine AWP.block ?_
      | (refine AWP.skip ?_; try dsimp only [thn, inBlk])
      | (refine AWP.exit ?_; try simp only [thn, inBlk, if_true, reduceIte, Nat.reduceEqDiff])
      | (refine AWP.ret ?_; try dsimp only [thn, inBlk])
      | (refine AWP.condT ?_ ?_; (focus (simp [go_sem, hc']; done)))
      | (refine AWP.condF ?_ ?_; (focus (simp [go_sem, hc']; done)))
      | (apply AWP.rE; (focus (simp [go_sem, hc']; exact ⟨rfl, rfl⟩)); try dsimp only [thn, inBlk])
      | fail)
    simp [bodyQ, thn, inBlk, resA, resV, go_sem]
    exact ⟨_, _, ⟨rfl, rfl⟩, kT⟩
  have hc0 : comeE T who p = 0 := by
    by_cases h : comeE T who p = 0
    · exact h
    · unfold findE at hc; rw [if_neg h] at hc; exact absurd hc h
  obtain ⟨nd, hg⟩ : ∃ nd, get T p = some nd := by
    unfold findE at hc; rw [if_pos hc0] at hc
    cases hg : get T p with
    | none => rw [hg] at hc; cases hc
    | some nd => exact ⟨nd, rfl⟩
  obtain ⟨j, w, t1, t2, t3, t4⟩ := pv_at hw hg
  have ho : h1.obj w.1 = some (nrow (p, nd) w) := (node_open k1 t1 t2).obj
  have hmd := hI.md _ (List.mem_of_getElem? t1)
  have hdl := hI.dl _ (List.mem_of_getElem? t1)
  dsimp only at hdl
  rw [if_pos hc0, t3, hc]
  cases hdr : nd.dir
  rotate_left
  · have e : rdR T who p = (113, []) := by simp only [rdR, hc, hg, hdr, if_true]
    rw [e]
    refine awpL_restE (by simp [go_sem]; exact ⟨rfl, rfl⟩) ?_; try dsimp only [thn, inBlk]
    (repeat' first
      | refine AWP.seq ?_
      | refine AWP.block ?_
      | (refine AWP.skip ?_; try dsimp only [thn, inBlk])
      | (refine AWP.exit ?_; try simp only [thn, inBlk, if_true, reduceIte, Nat.reduceEqDiff])
      | (refine AWP.ret ?_; try dsimp only [thn, inBlk])
      | (refine AWP.condT ?_ ?_; (focus (simp [go_sem, ho, hdr]; done)))
      | (refine AWP.condF ?_ ?_; (focus (simp [go_sem, ho, hdr]; done)))
      | (apply AWP.rE; (focus (simp [go_sem, ho, hdr]; exact ⟨rfl, rfl⟩)); try dsimp only [thn, inBlk])
      | fail)
    simp [bodyQ, thn, inBlk, resA, resV, go_sem]
    exact ⟨_, _, ⟨rfl, rfl⟩, kT⟩
  refine awpL_restE (by simp [go_sem]; exact ⟨rfl, rfl⟩) ?_; try dsimp only [thn, inBlk]
  (repeat' first
    | refine AWP.seq ?_
    | refine AWP.block ?_
    | (refine AWP.skip ?_; try dsimp only [thn, inBlk])
    | (refine AWP.exit ?_; try simp only [thn, inBlk, if_true, reduceIte, Nat.reduceEqDiff])
    | (refine AWP.ret ?_; try dsimp only [thn, inBlk])
    | (refine AWP.condT ?_ ?_; (focus (simp [go_sem, ho, hdr]; done)))
    | (refine AWP.condF ?_ ?_; (focus (simp [go_sem, ho, hdr]; done)))
    | (apply AWP.rE; (focus (simp [go_sem, ho, hdr]; exact ⟨rfl, rfl⟩)); try dsimp only [thn, inBlk])
    | fail)
  refine AWP.callE (by simp [go_sem]; exact ⟨rfl, rfl, rfl, rfl, rfl⟩) (by kernel_rfl) ?_
  refine (may_calls (who := who) (bit := 4) ho hmd (by omega)).mono ?_
  rintro r h3 ⟨rfl, rfl⟩
  cases hmy : may who nd 4
  · have e : rdR T who p = (114, []) := by simp only [rdR, hc, hg, hdr, hmy, if_true]; rfl
    rw [e]
    refine awpL_restE (by simp [go_sem]; exact ⟨rfl, rfl⟩) ?_; try dsimp only [thn, inBlk]
    (repeat' first
      | refine AWP.seq ?_
      | refine AWP.block ?_
      | (refine AWP.skip ?_; try dsimp only [thn, inBlk])
      | (refine AWP.exit ?_; try simp only [thn, inBlk, if_true, reduceIte, Nat.reduceEqDiff])
      | (refine AWP.ret ?_; try dsimp only [thn, inBlk])
      | (refine AWP.condT ?_ ?_; (focus (simp [go_sem]; done)))
      | (refine AWP.condF ?_ ?_; (focus (simp [go_sem]; done)))
      | (apply AWP.rE; (focus (simp [go_sem]; exact ⟨rfl, rfl⟩)); try dsimp only [thn, inBlk])
      | fail)
    simp [bodyQ, thn, inBlk, resA, resV, go_sem]
    exact ⟨_, _, ⟨rfl, rfl⟩, kT⟩
  have e : rdR T who p = (0, nd.data) := by simp only [rdR, hc, hg, hdr, hmy, if_true]; rfl
  rw [e]
  refine awpL_restE (by simp [go_sem]; exact ⟨rfl, rfl⟩) ?_; try dsimp only [thn, inBlk]
  (repeat' first
    | refine AWP.seq ?_
    | refine AWP.block ?_
    | (refine AWP.skip ?_; try dsimp only [thn, inBlk])
    | (refine AWP.exit ?_; try simp only [thn, inBlk, if_true, reduceIte, Nat.reduceEqDiff])
    | (refine AWP.ret ?_; try dsimp only [thn, inBlk])
    | (refine AWP.condT ?_ ?_; (focus (simp [go_sem]; done)))
    | (refine AWP.condF ?_ ?_; (focus (simp [go_sem]; done)))
    | (apply AWP.rE; (focus (simp [go_sem]; exact ⟨rfl, rfl⟩)); try dsimp only [thn, inBlk])
    | fail)
  refine AWP.callE (by simp [go_sem, ho]; exact ⟨rfl, rfl, rfl, rfl, rfl⟩) (by kernel_rfl) ?_
  refine (clone_calls k1 (fun hh kk => (node_open kk t1 t2).tail.ob_bytes) (by dsimp only; omega)).mono ?_
  rintro r h4 ⟨a9, c9, rfl, k4⟩
  refine awpL_restE (by simp [go_sem]; exact ⟨rfl, rfl⟩) ?_; try dsimp only [thn, inBlk]
  (repeat' first
    | refine AWP.seq ?_
    | refine AWP.block ?_
    | (refine AWP.skip ?_; try dsimp only [thn, inBlk])
    | (refine AWP.exit ?_; try simp only [thn, inBlk, if_true, reduceIte, Nat.reduceEqDiff])
    | (refine AWP.ret ?_; try dsimp only [thn, inBlk])
    | (refine AWP.condT ?_ ?_; (focus (simp [go_sem]; done)))
    | (refine AWP.condF ?_ ?_; (focus (simp [go_sem]; done)))
    | (apply AWP.rE; (focus (simp [go_sem]; exact ⟨rfl, rfl⟩)); try dsimp only [thn, inBlk])
    | fail)
  simp [bodyQ, thn, inBlk, resA, resV, go_sem]
  exact ⟨_, _, ⟨rfl, rfl⟩, (tr_iff.2 ⟨m, ws, hw, k4.perm List.perm_middle.symm⟩).b1⟩
end
end L23
end

section
open Go Ab Go.Proofs
namespace L23
set_option autoImplicit false
set_option linter.unusedSimpArgs false
set_option linter.unusedVariables false
section
variable {O : Old} {h : AHeap} {R : List Chunk} {i m : Nat} {T : TL} {ws : List Wd}
theorem node_own {h : AHeap} {j : Nat} {x : List UInt8 × Nd} {w : Wd} (k : Own O h (tro i m T ws ++ R)) (t1 : T[j]? = some x) (t2 : ws[j]? = some w) :
    Own O h (cell w.1 (nrow x w) :: ob 5 (.slice w.2.1 x.2.data.length w.2.2) x.2.data :: ((nsubs T ws).eraseIdx j ++ (cell i (trow m) :: mch m T ws :: R))) := node_open k t1 t2
end
end L23
end

section
open Go Ab Go.Proofs
namespace L23
set_option autoImplicit false
set_option linter.unusedSimpArgs false
set_option linter.unusedVariables false

/-! ### What stays true of a tree -/
structure NdOk (n : Nd) : Prop where
  ol : n.own.length ≤ 1000000
  md : n.mode ≤ 63
  dl : n.data.length ≤ 1000
theorem get_app {T : TL} {p q : List UInt8} {n nd : Nd} (h : get T q = some nd) : get (T ++ [(p, n)]) q = some nd := by
  unfold get at h ⊢
  obtain ⟨x, hx, rfl⟩ := Option.map_eq_some_iff.1 h
  rw [List.find?_append, hx]; rfl
theorem TK.app {T : TL} (h : TK T) {p : List UInt8} {n : Nd} (hg : get T p = none) (hp : p.length ≤ 1000000) (hn : NdOk n) (hl : T.length < 64) : TK (T ++ [(p, n)]) := by
  refine ⟨⟨?_, ?_, ?_, ?_, ?_⟩, ?_, by simp; omega⟩
  · rw [List.map_append, List.nodup_append]
    refine ⟨h.nd, by simp, fun a ha b hb e => ?_⟩
    obtain ⟨x, hx, rfl⟩ := List.mem_map.1 ha
    simp at hb
    exact get_none hg x hx (e.trans hb)
  all_goals first
    | (intro x hx
       rcases List.mem_append.1 hx with hx | hx
       · first | exact h.pl x hx | exact h.ol x hx | exact h.md x hx | exact h.dl x hx
       · obtain rfl := List.mem_singleton.1 hx
         first | exact hp | exact hn.ol | exact hn.md | exact hn.dl)
    | (obtain ⟨nd, e⟩ := h.tp; exact ⟨nd, get_app e⟩)
theorem get_set {T : TL} {j : Nat} {p q : List UInt8} {n n' nd : Nd} (hj : T[j]? = some (p, n)) (h : get T q = some nd) : ∃ nd', get (T.set j (p, n')) q = some nd' := by
  cases hg : get (T.set j (p, n')) q with
  | some nd' => exact ⟨nd', rfl⟩
  | none =>
    obtain ⟨k, hk⟩ := get_some h
    have hn := get_none hg
    obtain ⟨hlt, _⟩ := List.getElem?_eq_some_iff.1 hj
    by_cases e : j = k
    · subst e
      rw [hj] at hk
      obtain ⟨rfl, rfl⟩ := Option.some.inj hk
      exact absurd rfl (hn (p, n') (List.mem_of_getElem? (i := j) (by rw [List.getElem?_set_self hlt])))
    · exact absurd rfl (hn (q, nd) (List.mem_of_getElem? (i := k) (by rw [List.getElem?_set_ne e]; exact hk)))
theorem TK.set {T : TL} (h : TK T) {j : Nat} {p : List UInt8} {n n' : Nd} (hj : T[j]? = some (p, n)) (hn : NdOk n') : TK (T.set j (p, n')) := by
  have hpm := List.mem_of_getElem? hj
  refine ⟨⟨?_, ?_, ?_, ?_, ?_⟩, ?_, by rw [List.length_set]; exact h.mx⟩
  · have : (T.set j (p, n')).map (·.1) = T.map (·.1) := by
      rw [List.map_set]
      apply List.ext_getElem?
      intro k
      rw [List.getElem?_set]
      split
      · rename_i e; subst e
        rw [List.getElem?_map, hj]
        rw [if_pos (by rw [List.length_map]; exact (List.getElem?_eq_some_iff.1 hj).1)]; rfl
      · rfl
    rw [this]; exact h.nd
  · intro x hx
    rcases List.mem_or_eq_of_mem_set hx with hx | hx
    · exact h.pl x hx
    · rw [hx]; exact h.pl (p, n) hpm
  · intro x hx
    rcases List.mem_or_eq_of_mem_set hx with hx | hx
    · exact h.ol x hx
    · rw [hx]; exact hn.ol
  · intro x hx
    rcases List.mem_or_eq_of_mem_set hx with hx | hx
    · exact h.md x hx
    · rw [hx]; exact hn.md
  · intro x hx
    rcases List.mem_or_eq_of_mem_set hx with hx | hx
    · exact h.dl x hx
    · rw [hx]; exact hn.dl
  · obtain ⟨nd, e⟩ := h.tp
    exact get_set hj e
theorem TK.node {T : TL} (h : TK T) {p : List UInt8} {n : Nd} (hg : get T p = some n) : NdOk n := by
  obtain ⟨j, hj⟩ := get_some hg
  have hm := List.mem_of_getElem? hj
  exact ⟨h.ol _ hm, h.md _ hm, h.dl _ hm⟩
theorem TK.setN {T : TL} (h : TK T) {p : List UInt8} {n n' : Nd} (hg : get T p = some n) (hn : NdOk n') : TK (L23.setN T p n') := by
  obtain ⟨j, hj, hf⟩ := findIdx_get hg
  unfold L23.setN
  rw [hf]
  exact h.set hj hn
theorem TK.putT {T : TL} (h : TK T) {p : List UInt8} {n : Nd} (hg : get T p = none) (hp : p.length ≤ 1000000) (hn : NdOk n) : TK (L23.putT T p n) := by
  unfold L23.putT
  split
  · rename_i e
    refine h.app hg hp hn ?_
    unfold putE at e
    split at e
    · split at e
      · cases e
      split at e
      · cases e
      · omega
    · cases e
  · exact h
theorem TK.mkd {T : TL} (h : TK T) {who p : List UInt8} {z : Int} (hp : p.length ≤ 1000000) (hw : who.length ≤ 1000000) : TK (mkR T who p z).2 := by
  unfold mkR
  split
  · split
    · exact h
    · rename_i hr
      split
      · exact h
      · rename_i hg
        exact h.putT hg hp ⟨hw, by simp [rightB] at hr; dsimp only; omega, by simp⟩
  · exact h
theorem TK.wr {T : TL} (h : TK T) {who p d : List UInt8} {z : Int} (hp : p.length ≤ 1000000) (hw : who.length ≤ 1000000) : TK (wrR T who p d z).2 := by
  unfold wrR
  split
  · split
    · exact h
    · rename_i hr
      split
      · exact h
      rename_i hl
      split
      · rename_i hg
        exact h.putT hg hp ⟨hw, by simp [rightB] at hr; dsimp only; omega, by dsimp only; omega⟩
      · rename_i nd hg
        split
        · exact h
        split
        · exact h
        · exact h.setN hg ⟨(h.node hg).ol, (h.node hg).md, by dsimp only; omega⟩
  · exact h
theorem TK.ch {T : TL} (h : TK T) {who p : List UInt8} {z : Int} : TK (chR T who p z).2 := by
  unfold chR
  split
  · split
    · exact h
    · rename_i hr
      split
      · exact h
      · rename_i nd hg
        split
        · exact h
        · exact h.setN hg ⟨(h.node hg).ol, by simp [rightB] at hr; dsimp only; omega, (h.node hg).dl⟩
  · exact h
theorem TK.gv {T : TL} (h : TK T) {who p o : List UInt8} (ho : o.length ≤ 1000000) : TK (gvR T who p o).2 := by
  unfold gvR
  split
  · split
    · exact h
    · split
      · exact h
      · rename_i nd hg
        exact h.setN hg ⟨ho, (h.node hg).md, (h.node hg).dl⟩
  · exact h
theorem TK.top : TK [L23.top] := ⟨⟨by simp, by simp [L23.top], by simp [L23.top, rootB], by simp [L23.top], by simp [L23.top]⟩, ⟨_, rfl⟩, by simp⟩
end L23
end

section
namespace L23
open Go Ab Go.Proofs
open Go.RowKit Go.Maps Go.Sort Go.Shelf
set_option autoImplicit false
set_option linter.unusedSimpArgs false
set_option linter.unusedVariables false

shelf_lay_g SlLaysZ.n7 Ggz 7 at Tryz 32 as Lk.keysA
shelf_lay_g SlLaysZ.n6 Ggz 6 at Tryz 31 as Lk.sortedA
shelf_lay_g SlLaysM.n6 Slgm 6 at Tryz 56 as Lk.sortA

theorem sortsA (m : Nat) : AnyZ.SortsIn Tryz.prog Lk.sortedA_ren Fence.wide m :=
  ⟨fun blk off cap ss W hH hblk hsz => callsIn_wide.2 (AnyM.slices_Sort_string Lk.sortA blk off cap ss W hH hblk hsz),
   fun p cap W => callsIn_wide.2 (AnyM.slices_Sort_string_none Lk.sortA p cap W)⟩

/-- slices.Sorted of maps.Keys' iterator, by the kit's contracts. -/
theorem sorted_kit {H : Type} (Bm b nn : Nat) (D0 : DataW H) {R : Value → Option (DataW H × List MemPlace)} (w : World) (hBm : Bm < w.heap.size) (hm : w.cell? ⟨Bm, 0, none⟩ = some (.map (some b))) (hown : w.ownsMap Tryz.prog 9 R b nn D0) (hmax : Maps.size D0 ≤ maxLen) (hbytes : Maps.size D0 * 16 ≤ 140737488355328) :
    Calls Tryz.prog 31 #[.func (.func 57) #[] #[.pointer (some ⟨Bm, 0, none⟩)]] w fun e w' => ∃ (v : Value) (ss : List (List UInt8)), e = .returned v ∧ ss = (strKeys D0).mergeSort leB ∧
      w'.ownsRow w.heap.size 9 1 v ss.length (ss.map encStr) ∧ (v = .slice none 0 0 ↔ ss = []) ∧ Below w.heap.size w w' := by
  refine (callsIn_wide (n := 5)).1 ?_
  have hseq : SeqGives Fence.wide 2 Tryz.prog 57 #[.pointer (some ⟨Bm, 0, none⟩)] encStr (fun ss => ss.Perm (strKeys D0)) (Maps.size D0) w :=
    AnyZ.keys_gives (ρ := Lk.keysA_ren) { Lk.keysA with } Fence.wide _ trivial rfl (by omega) Bm b nn D0 w hBm hm hown
  have cS := AnyZ.sorted_in Lk.sortedA Fence.wide 5 trivial trivial trivial trivial rfl (by omega) (sortsA _) (enters_of Tryz.func56 (by kernel_rfl) rfl) 57 #[.pointer (some ⟨Bm, 0, none⟩)] trivial (enters_of Tryz.func57 (by kernel_rfl) rfl) _ _ hmax hbytes _ hseq
  change CallsIn _ _ Tryz.prog 31 _ _ _ at cS
  refine cS.mono ?_
  rintro e w' ⟨v, ss, rfl, hp, hrow, hnil, hb⟩
  refine ⟨v, ss.mergeSort leB, rfl, mergeSort_of_perm hp, by rw [List.length_mergeSort]; exact hrow, ?_, hb⟩
  rw [hnil]
  constructor
  · rintro rfl; exact List.eq_nil_of_length_eq_zero (by rw [List.length_mergeSort]; rfl)
  · intro h
    have := List.length_mergeSort (le := leB) ss
    rw [h] at this
    exact List.eq_nil_of_length_eq_zero this.symm

theorem insert_all {H : Type} : ∀ l : List (Lit × DataW H), (l.foldr DataW.insert []).Perm l
  | [] => .nil
  | x :: l => by
    rw [List.foldr_cons]
    exact (WideShapes.insert_perm x _).trans ((insert_all l).cons x)

section
variable {O : Old} {h : AHeap} {R : List Chunk} {m bx : Nat} {l : List (List UInt8 × Nat)}
theorem sorted_calls (hbx : h.obj bx = some (.row [.map (some m)] 76 1 true false)) (k : Own O h (mpc tx ptr m l :: R)) (hg : ∀ p ∈ l, p.1.length ≤ 1000000) (hl : l.length ≤ 1000) (hn : (l.map (·.1)).Nodup) :
    ACalls Tryz.prog 31 #[.func (.func 57) #[] #[ptr bx]] h fun v h' => (l = [] ∧ v = .slice none 0 0 ∧ h' = h) ∨
      (l ≠ [] ∧ v = .slice (some ⟨h.next, 0, none⟩) l.length l.length ∧ h' = h.push (.row (((l.map (·.1)).mergeSort leB).map T) 9 1 false false)) := by
  intro M w cargs r va
  obtain ⟨bs, clock, ⟨hb1, hb2, hb3⟩, k1⟩ := mpc_iff.1 k
  have hom := k1.obj
  -- the argument
  have hsz : cargs.size = 1 := va.1.symm
  have h0 := va.2 0 (by simp) (by omega)
  obtain ⟨c0, rfl⟩ : ∃ c0, cargs = #[c0] := ⟨cargs[0], by apply Array.ext <;> simp [hsz]; intro i p; subst p; rfl⟩
  simp only [List.getElem_toArray, List.getElem_cons_zero] at h0
  cases h0 with
  | func _ _ f' _ c' q1 q2 q3 q4 =>
    have hf' : f' = #[] := by apply Array.ext <;> simp [← q1]
    subst hf'
    have hc1 : c'.size = 1 := q3.symm
    have h1 := q4 0 (by simp) (by omega)
    obtain ⟨p0, rfl⟩ : ∃ p0, c' = #[p0] := ⟨c'[0], by apply Array.ext <;> simp [hc1]; intro i p; subst p; rfl⟩
    simp only [List.getElem_toArray, List.getElem_cons_zero] at h1
    cases h1 with
    | ptr _ _ b hM =>
      obtain ⟨cc, lo, hi, u1, u2, u3, u4, u5, u6, u7⟩ := r.live bx _ b hbx hM
      have hb0 : b.base = 0 := r.b0 bx b hM (u5 rfl)
      obtain ⟨vc, u8, u9⟩ := r.cell (off := 0) hbx hM rfl
      rw [hb0] at u8 ⊢
      cases u9 with
      | map _ bm hMm =>
        obtain ⟨es', hw, hmr⟩ := r.live m _ bm hom hMm
        have hkeys := hmr.mem
        have ek : (ents tx ptr l bs).map (·.key) = l.map fun p => tx p.1 := ents_keys hb1
        have eb : (ents tx ptr l bs).map (·.born) = bs := ents_borns hb1
        rw [show (ents tx ptr l bs).toArray.toList = ents tx ptr l bs from rfl, ek] at hkeys
        have hborn : es'.toList.map (·.born) = bs := by
          rw [← eb]
          apply List.ext_getElem
          · simp [hmr.1.symm]
          · intro j a c
            simp at a c
            have := (hmr.2 j (by simpa using c) a).2.1
            simpa using this.symm
        have hsize : es'.size = l.length := by rw [← hmr.1]; simp [ents_length hb1]
        have hmx : maxLen = 9223372036854775807 := by decide
        let RR : Value → Option (DataW Unit × List MemPlace) := fun _ => some (.nil, [])
        have hrd : ∀ x ∈ es'.toList, ∃ s : List UInt8, x.key = tx s ∧ s ∈ l.map (·.1) ∧ WideElems.rd Tryz.prog 9 RR x = some (.string s, .nil) := by
          intro x hx
          have : x.key ∈ l.map fun p => tx p.1 := by rw [← hkeys]; exact List.mem_map_of_mem hx
          obtain ⟨p, hp, e⟩ := List.mem_map.1 this
          have hs : ByteArray.size ⟨p.1.toArray⟩ = p.1.length := rfl
          refine ⟨p.1, e.symm, List.mem_map_of_mem hp, ?_⟩
          have hk := WideMaps.keyOf_string_mk Tryz.underlying9 (s := ⟨p.1.toArray⟩) (by rw [hs, hmx]; have := hg p hp; omega)
          simp only [WideElems.rd, ← e, tx, hk, RR, Option.bind_some, Option.map_some]
        have hown : w.ownsMap Tryz.prog 9 RR bm.blk es'.size (.map ((es'.toList.map (WideElems.rg Tryz.prog 9 RR)).foldr DataW.insert [])) := by
          refine ⟨es', clock, hw, ⟨by rw [hsize, hmx]; omega, ⟨?_, by rw [hborn]; exact hb2, ?_⟩, fun x hx => ?_⟩, Nat.le_refl _, rfl⟩
          · intro x hx
            exact hb3 _ (by rw [← hborn]; exact List.mem_map_of_mem hx)
          · rw [hkeys]
            have := nodup_map (f := tx) txEnc.inj hn
            rwa [List.map_map] at this
          · obtain ⟨s, _, _, e⟩ := hrd x hx
            exact ⟨_, e⟩
        have hperm : (strKeys (H := Unit) (.map ((es'.toList.map (WideElems.rg Tryz.prog 9 RR)).foldr DataW.insert []))).Perm (l.map (·.1)) := by
          have p1 := (insert_all (es'.toList.map (WideElems.rg Tryz.prog 9 RR))).map (fun p : Lit × DataW Unit => strOf p.1)
          refine p1.trans ?_
          have : (es'.toList.map (WideElems.rg Tryz.prog 9 RR)).map (fun p : Lit × DataW Unit => strOf p.1) = l.map (·.1) := by
            have e2 : ((es'.toList.map (WideElems.rg Tryz.prog 9 RR)).map (fun p : Lit × DataW Unit => strOf p.1)).map tx = (l.map (·.1)).map tx := by
              rw [List.map_map, List.map_map, List.map_map]
              refine Eq.trans ?_ hkeys
              apply List.map_congr_left
              intro x hx
              obtain ⟨s, e, _, e3⟩ := hrd x hx
              simp only [Function.comp, WideElems.rg, e3, Option.getD_some, strOf, e]
            have hinj : ∀ (a b : List (List UInt8)), a.map tx = b.map tx → a = b := by
              intro a
              induction a with
              | nil => intro b hb; cases b with
                | nil => rfl
                | cons => cases hb
              | cons x a ih => intro b hb; cases b with
                | nil => cases hb
                | cons y b =>
                  simp only [List.map_cons, List.cons.injEq] at hb
                  rw [txEnc.inj _ _ hb.1, ih b hb.2]
            exact hinj _ _ e2
          rw [this]
        have hsz2 : Maps.size (H := Unit) (.map ((es'.toList.map (WideElems.rg Tryz.prog 9 RR)).foldr DataW.insert [])) = l.length := by
          rw [Maps.size_eq, (insert_all _).length_eq]; simp [hsize]
        have kk := sorted_kit b.blk bm.blk es'.size _ w (r.inb bx b hM) (by simpa using u8) hown (by rw [hsz2, hmx]; omega) (by rw [hsz2]; omega)
        have kb := textsBack (ok := fun ss => ss = (strKeys (H := Unit) (.map ((es'.toList.map (WideElems.rg Tryz.prog 9 RR)).foldr DataW.insert []))).mergeSort leB) (show encStr = T from rfl) r kk
        rw [mergeSort_of_perm hperm] at kb
        refine kb.mono ?_
        rintro x w' ⟨v, vc, M', h', hx, hv, hrest⟩
        refine ⟨v, vc, M', h', hx, ?_, hrest⟩
        rcases hv with ⟨e1, e2, e3⟩ | ⟨ss, e1, e2, e3, e4⟩
        · left
          refine ⟨?_, e1, e3⟩
          have := congrArg List.length e2
          rw [List.length_mergeSort] at this
          simp at this
          exact List.eq_nil_of_length_eq_zero this.symm
        · right
          subst e1
          have hlen : ((l.map (·.1)).mergeSort leB).length = l.length := by rw [List.length_mergeSort, List.length_map]
          rw [hlen] at e3
          refine ⟨fun e => e2 ?_, e3, e4⟩
          rw [e]; exact List.eq_nil_of_length_eq_zero (by rw [List.length_mergeSort]; rfl)
end
end L23
end

section
open Go Ab Go.Proofs
namespace L23
set_option autoImplicit false
set_option linter.unusedSimpArgs false
set_option linter.unusedVariables false
abbrev srt (l : List (List UInt8)) : List (List UInt8) := l.mergeSort Go.leB
theorem sort_calls {O : Old} {h : AHeap} {R : List Chunk} {v : Value} {ls : List (List UInt8)} (k : Own O h (txs v ls :: R)) (hl : ls.length ≤ 1000000) :
    ACalls Tryz.prog 56 #[v] h fun r h' => r = .tuple #[] ∧ Own O h' (txs v (srt ls) :: R) :=
  sortBack (ord := srt) (fun l => List.length_mergeSort _) (fun blk off cap ss w hH hblk hsz => AnyM.slices_Sort_string Lk.sortA blk off cap ss w hH hblk hsz) (fun p cap w => AnyM.slices_Sort_string_none Lk.sortA p cap w) k hl

/-! ### The names in a directory -/
/-- A path's last name. -/
def base (p : List UInt8) : List UInt8 := p.drop (lastN p 47 p.length)
def kidP (q : List UInt8) (p : List UInt8) : Bool := !(p == [47]) && par p == q
def kids (T : TL) (q : List UInt8) : List (List UInt8) := ((T.map (·.1)).filter (kidP q)).map base

theorem nodup_of_map {α β : Type} {f : α → β} : ∀ {l : List α}, (l.map f).Nodup → l.Nodup
  | [], _ => List.nodup_nil
  | x :: l, h => by
    rw [List.map_cons, List.nodup_cons] at h
    exact List.nodup_cons.2 ⟨fun hx => h.1 (List.mem_map_of_mem hx), nodup_of_map h.2⟩
theorem lessZ {α : Type} {zs : List (α × Nat)} {seen : Array Nat} {z : α × Nat} (hz : z ∈ zs) (hn : z.2 ∉ seen) :
    (zs.filter fun y => !decide (y.2 ∈ seen.push z.2)).length < (zs.filter fun y => !decide (y.2 ∈ seen)).length := by
  have : (zs.filter fun y => !decide (y.2 ∈ seen.push z.2)) = (zs.filter fun y => !decide (y.2 ∈ seen)).filter fun y => !decide (y.2 = z.2) := by
    rw [List.filter_filter]
    apply List.filter_congr
    intro y hy
    simp; rw [Bool.and_comm]
  rw [this]
  rw [List.length_filter_lt_length_iff_exists]
  exact ⟨z, by simp [hz, hn], by simp⟩
theorem vis_perm {α : Type} {U zs : List (α × Nat)} (h1 : ∀ z ∈ U, z ∈ zs) (h2 : U.Nodup) (h3 : (zs.map (·.2)).Nodup) (h4 : ∀ z ∈ zs, ∃ y ∈ U, y.2 = z.2) : U.Perm zs := by
  have hz : zs.Nodup := by
    exact nodup_of_map h3
  refine (List.perm_ext_iff_of_nodup h2 hz).2 fun a => ⟨h1 a, fun ha => ?_⟩
  obtain ⟨y, hy, e⟩ := h4 a ha
  have := inj_of_nodup (f := fun z : α × Nat => z.2) h3 (h1 y hy) ha e
  rw [← this]; exact hy
section
variable {O : Old} {h : AHeap} {R : List Chunk} {i m : Nat} {T : TL} {ws : List Wd}
set_option maxHeartbeats 8000000 in
theorem names_calls {q : List UInt8} (hI : TI T) (hw : ws.length = T.length) (k : Own O h (tro i m T ws ++ R)) (hT : T.length ≤ 1000) :
    ACalls Tryz.prog 67 #[ptr i, tx q] h fun r h' => ∃ a cap, r = .slice a (kids T q).length cap ∧ Own O h' (txs (.slice a (kids T q).length cap) (srt (kids T q)) :: (tro i m T ws ++ R)) := by
  refine ACalls.of_awp (args := [ptr i, tx q]) (n := 34) Tryz.func67 rfl rfl (by show 2 ≤ 34; omega) ?_
  have ci : h.obj i = some (trow m) := k.obj
  obtain ⟨zs, clock, hz1, hz2, hz3, k1⟩ := mpc_mpz.1 ((show Own O h (cell i (trow m) :: mch m T ws :: (nsubs T ws ++ R)) from k).b1)
  have hzk : zs.map (·.1.1) = T.map (·.1) := by
    have := congrArg (List.map Prod.fst) hz1
    rw [List.map_map] at this
    rw [← ptrs_keys hw, ← this]; rfl
  have hzl : ∀ z ∈ zs, z.1.1.length ≤ 1000000 := fun z hz => by
    have : z.1.1 ∈ T.map (·.1) := by rw [← hzk]; exact List.mem_map_of_mem hz
    obtain ⟨x, hx, e⟩ := List.mem_map.1 this
    rw [← e]; exact hI.pl x hx
  have hzn : zs.length = T.length := by have := congrArg List.length hzk; simpa using this
  have e1 := k1.rangeW (P := Tryz.prog) (t := 76) Tryz.underlying76
  have k2 : Own O (h.push (.other (.mapIter (some m) clock #[] clock))) (cell h.next (.other (.mapIter (some m) clock #[] clock)) :: mpz tx ptr m zs clock :: os 9 1 (.slice none 0 0) 0 [] :: cell i (trow m) :: (nsubs T ws ++ R)) := ((k1.push _).nil 9 1).p2
  (repeat' first
    | refine AWP.seq ?_
    | refine AWP.block ?_
    | (refine AWP.skip ?_; try dsimp only [thn, inBlk])
    | (refine AWP.exit ?_; try simp only [thn, inBlk, if_true, reduceIte, Nat.reduceEqDiff])
    | (refine AWP.ret ?_; try dsimp only [thn, inBlk])
    | (refine AWP.condT ?_ ?_; (focus (simp [go_sem, ci, e1]; done)))
    | (refine AWP.condF ?_ ?_; (focus (simp [go_sem, ci, e1]; done)))
    | (apply AWP.rE; (focus (simp [go_sem, ci, e1]; exact ⟨rfl, rfl⟩)); try dsimp only [thn, inBlk])
    | fail)
  refine AWP.loopR [1, 4, 10] (fun n s h' => ∃ (seen : Array Nat) (U : List ((List UInt8 × Nat) × Nat)) (ns : List (List UInt8)) (a : Option Addr) (cap : Nat), n = (zs.filter fun y => !decide (y.2 ∈ seen)).length ∧ s = ⟨34, [(1, tx q), (4, .slice a ns.length cap), (10, ptr h.next)]⟩ ∧
    (∀ z ∈ U, z ∈ zs) ∧ U.Nodup ∧ (∀ y, y ∈ seen ↔ ∃ z ∈ U, z.2 = y) ∧ ns = ((U.map (·.1.1)).filter (kidP q)).map base ∧ U.length ≤ zs.length ∧
    Own O h' (cell h.next (.other (.mapIter (some m) clock seen clock)) :: mpz tx ptr m zs clock :: txs (.slice a ns.length cap) ns :: cell i (trow m) :: (nsubs T ws ++ R))) ?_ ?_
  · exact ⟨_, #[], [], [], none, 0, rfl, by simp [go_sem], by simp, List.nodup_nil, by simp, rfl, by simp, k2⟩
  rintro n s h' ⟨seen, U, ns, a, cap, rfl, rfl, hU1, hU2, hU3, hns, hUl, kt⟩
  have hnl : ns.length ≤ 1000 := by
    rw [hns, List.length_map]
    have := List.length_filter_le (kidP q) (U.map (·.1.1))
    rw [List.length_map] at this; omega
  refine AWP.seq ?_
  refine AWP.nextE rfl rfl rfl rfl (by simp [go_sem]; rfl) ?_
  refine kt.nextA (fun _ => rfl) (fun z hz => hz3 z hz) (Nat.le_refl _) ?_ ?_
  · intro hall
    have hperm : U.Perm zs := vis_perm hU1 hU2 hz2 (fun z hz => (hU3 z.2).1 (hall z hz))
    have hkp : ns.Perm (kids T q) := by
      rw [hns, kids, ← hzk]
      exact (((hperm.map _).filter _).map _)
    have hkl : ns.length = (kids T q).length := hkp.length_eq
    have hsr : srt ns = srt (kids T q) := Go.mergeSort_of_perm hkp
    refine awpL_restE (by simp [go_sem]; exact ⟨rfl, rfl⟩) ?_; try dsimp only [thn, inBlk]
    (repeat' first
      | refine AWP.seq ?_
      | refine AWP.block ?_
      | (refine AWP.skip ?_; try dsimp only [thn, inBlk])
      | (refine AWP.exit ?_; try simp only [thn, inBlk, if_true, reduceIte, Nat.reduceEqDiff])
      | (refine AWP.ret ?_; try dsimp only [thn, inBlk])
      | (refine AWP.condT ?_ ?_; (focus (simp [go_sem]; done)))
      | (refine AWP.condF ?_ ?_; (focus (simp [go_sem]; done)))
      | (apply AWP.rE; (focus (simp [go_sem]; exact ⟨rfl, rfl⟩)); try dsimp only [thn, inBlk])
      | fail)
    refine AWP.callE (by simp [go_sem]; exact ⟨rfl, rfl, rfl, rfl, rfl⟩) (by kernel_rfl) ?_
    refine (sort_calls kt.b2 (by omega)).mono ?_
    rintro r h3 ⟨rfl, k3⟩
    rw [hsr] at k3
    refine awpL_restE (by simp [go_sem]; exact ⟨rfl, rfl⟩) ?_; try dsimp only [thn, inBlk]
    (repeat' first
      | refine AWP.seq ?_
      | refine AWP.block ?_
      | (refine AWP.skip ?_; try dsimp only [thn, inBlk])
      | (refine AWP.exit ?_; try simp only [thn, inBlk, if_true, reduceIte, Nat.reduceEqDiff])
      | (refine AWP.ret ?_; try dsimp only [thn, inBlk])
      | (refine AWP.condT ?_ ?_; (focus (simp [go_sem]; done)))
      | (refine AWP.condF ?_ ?_; (focus (simp [go_sem]; done)))
      | (apply AWP.rE; (focus (simp [go_sem]; exact ⟨rfl, rfl⟩)); try dsimp only [thn, inBlk])
      | fail)
    simp [bodyQ, thn, inBlk, resA, resV, go_sem]
    have ksl : (srt (kids T q)).length = (kids T q).length := List.length_mergeSort _
    refine ⟨a, cap, ⟨rfl, hkl, rfl⟩, ?_⟩
    rw [← hkl]
    exact (show Own O h3 (mch m T ws :: txs (.slice a ns.length cap) (srt (kids T q)) :: cell i (trow m) :: (nsubs T ws ++ R)) from mpc_mpz.2 ⟨zs, clock, hz1, hz2, hz3, (k3.d1).b1⟩).b2.b2
  · intro z hz hns2
    have k3 := kt.set (.other (.mapIter (some m) clock (seen.push z.2) clock))
    have e4 := k3.entryR (fun _ => rfl) hz2 hz
    have hzU : z ∉ U := fun h => hns2 ((hU3 z.2).2 ⟨z, h, rfl⟩)
    have hpl := hzl z hz
    have hless := lessZ hz hns2
    have i1 : ∀ y ∈ U ++ [z], y ∈ zs := fun y hy => by
      rcases List.mem_append.1 hy with hy | hy
      · exact hU1 y hy
      · rw [List.mem_singleton.1 hy]; exact hz
    have i2 : (U ++ [z]).Nodup := by
      rw [List.nodup_append]
      exact ⟨hU2, by simp, fun a ha b hb e => by rw [List.mem_singleton.1 hb] at e; rw [e] at ha; exact hzU ha⟩
    have i3 : ∀ y, y ∈ seen.push z.2 ↔ ∃ x ∈ U ++ [z], x.2 = y := fun y => by
      rw [Array.mem_push, hU3]
      constructor
      · rintro (⟨x, hx, e⟩ | e)
        · exact ⟨x, List.mem_append_left _ hx, e⟩
        · exact ⟨z, by simp, e.symm⟩
      · rintro ⟨x, hx, e⟩
        rcases List.mem_append.1 hx with hx | hx
        · exact .inl ⟨x, hx, e⟩
        · rw [List.mem_singleton.1 hx] at e; exact .inr e.symm
    have i4 : (U ++ [z]).length ≤ zs.length := by
      have hzn2 : zs.Nodup := nodup_of_map hz2
      exact List.Nodup.length_le_of_subset i2 i1
    have i5 : (((U ++ [z]).map (·.1.1)).filter (kidP q)).map base = if kidP q z.1.1 = true then ns ++ [base z.1.1] else ns := by
      rw [List.map_append, List.filter_append, List.map_append, ← hns]
      by_cases hk : kidP q z.1.1 = true
      · rw [if_pos hk]; simp [hk]
      · rw [if_neg hk]; simp [hk]
    generalize hH : h'.set h.next (.other (.mapIter (some m) clock (seen.push z.2) clock)) = h3 at *
    obtain ⟨⟨p, pw⟩, st⟩ := z
    dsimp only at e4 hpl i5 hless i3 k3
    by_cases hp1 : p = [47]
    · have hp1' : (p == [47]) = true := by simpa using hp1
      have hk : ¬ kidP q p = true := by simp [kidP, hp1]
      rw [if_neg hk] at i5
      refine awpL_restE (by simp [go_sem]; exact ⟨rfl, rfl⟩) ?_; try dsimp only [thn, inBlk]
      (repeat' first
        | refine AWP.seq ?_
        | refine AWP.block ?_
        | (refine AWP.skip ?_; try dsimp only [thn, inBlk])
        | (refine AWP.exit ?_; try simp only [thn, inBlk, if_true, reduceIte, Nat.reduceEqDiff])
        | (refine AWP.ret ?_; try dsimp only [thn, inBlk])
        | (refine AWP.condT ?_ ?_; (focus (simp [go_sem, e4, hp1']; done)))
        | (refine AWP.condF ?_ ?_; (focus (simp [go_sem, e4, hp1']; done)))
        | (apply AWP.rE; (focus (simp [go_sem, e4, hp1']; exact ⟨rfl, rfl⟩)); try dsimp only [thn, inBlk])
        | fail)
      exact ⟨_, hless, seen.push st, U ++ [((p, pw), st)], ns, a, cap, rfl, by simp [go_sem], i1, i2, i3, i5.symm, i4, k3⟩
    have hp1' : (p == [47]) = false := by simpa using hp1
    refine awpL_restE (by simp [go_sem]; exact ⟨rfl, rfl⟩) ?_; try dsimp only [thn, inBlk]
    (repeat' first
      | refine AWP.seq ?_
      | refine AWP.block ?_
      | (refine AWP.skip ?_; try dsimp only [thn, inBlk])
      | (refine AWP.exit ?_; try simp only [thn, inBlk, if_true, reduceIte, Nat.reduceEqDiff])
      | (refine AWP.ret ?_; try dsimp only [thn, inBlk])
      | (refine AWP.condT ?_ ?_; (focus (simp [go_sem, e4, hp1']; done)))
      | (refine AWP.condF ?_ ?_; (focus (simp [go_sem, e4, hp1']; done)))
      | (apply AWP.rE; (focus (simp [go_sem, e4, hp1']; exact ⟨rfl, rfl⟩)); try dsimp only [thn, inBlk])
      | fail)
    refine AWP.callE (by simp [go_sem, e4, hp1']; exact ⟨rfl, rfl, rfl, rfl, rfl⟩) (by kernel_rfl) ?_
    refine (parent_calls (l := p) hpl).mono ?_
    rintro r h4 ⟨rfl, rfl⟩
    by_cases hq : par p = q
    rotate_left
    · have hq' : (par p == q) = false := by simpa using hq
      have hk : ¬ kidP q p = true := by simp [kidP, hq]
      rw [if_neg hk] at i5
      refine awpL_restE (by simp [go_sem]; exact ⟨rfl, rfl⟩) ?_; try dsimp only [thn, inBlk]
      (repeat' first
        | refine AWP.seq ?_
        | refine AWP.block ?_
        | (refine AWP.skip ?_; try dsimp only [thn, inBlk])
        | (refine AWP.exit ?_; try simp only [thn, inBlk, if_true, reduceIte, Nat.reduceEqDiff])
        | (refine AWP.ret ?_; try dsimp only [thn, inBlk])
        | (refine AWP.condT ?_ ?_; (focus (simp [go_sem, hq']; done)))
        | (refine AWP.condF ?_ ?_; (focus (simp [go_sem, hq']; done)))
        | (apply AWP.rE; (focus (simp [go_sem, hq']; exact ⟨rfl, rfl⟩)); try dsimp only [thn, inBlk])
        | fail)
      exact ⟨_, hless, seen.push st, U ++ [((p, pw), st)], ns, a, cap, rfl, by simp [go_sem], i1, i2, i3, i5.symm, i4, k3⟩
    have hq' : (par p == q) = true := by simpa using hq
    have hk : kidP q p = true := by simp [kidP, hq, hp1]
    rw [if_pos hk] at i5
    refine awpL_restE (by simp [go_sem]; exact ⟨rfl, rfl⟩) ?_; try dsimp only [thn, inBlk]
    (repeat' first
      | refine AWP.seq ?_
      | refine AWP.block ?_
      | (refine AWP.skip ?_; try dsimp only [thn, inBlk])
      | (refine AWP.exit ?_; try simp only [thn, inBlk, if_true, reduceIte, Nat.reduceEqDiff])
      | (refine AWP.ret ?_; try dsimp only [thn, inBlk])
      | (refine AWP.condT ?_ ?_; (focus (simp [go_sem, hq']; done)))
      | (refine AWP.condF ?_ ?_; (focus (simp [go_sem, hq']; done)))
      | (apply AWP.rE; (focus (simp [go_sem, hq']; exact ⟨rfl, rfl⟩)); try dsimp only [thn, inBlk])
      | fail)
    refine AWP.callE (by simp [go_sem]; exact ⟨rfl, rfl, rfl, rfl, rfl⟩) (by kernel_rfl) ?_
    refine (lastb_calls (l := p) (c := 47) hpl).mono ?_
    rintro r h5 ⟨rfl, rfl⟩
    have hL := lastN_le p 47 p.length
    obtain ⟨L, hLe⟩ : ∃ L, L = lastN p 47 p.length := ⟨_, rfl⟩
    obtain ⟨zz, hzz⟩ : ∃ zz : Int, zz = (L : Int) - 1 := ⟨_, rfl⟩
    rw [← hLe] at hL ⊢
    rw [← hzz]
    have w1 : IntKind.i64.wrap (zz + 1) = (L : Int) := by rw [wI64 (by omega) (by omega)]; omega
    have s1 : ∀ hh, sliceR Tryz.prog hh 9 (tx p) (some (.int .i64 (L : Int))) none none = some (tx (base p)) := fun hh => by
      have := str_slice (P := Tryz.prog) (h := hh) Tryz.underlying9 (l := p) (lo := L) (hi := p.length) (a := some (.int .i64 (L : Int))) (u := none) (by omega) (Nat.le_refl _) (.inr ⟨.i64, rfl⟩) (.inl ⟨rfl, rfl⟩)
      rw [List.take_length] at this
      rw [base, ← hLe]; exact this
    obtain ⟨a6, c6, h6, e6, k6⟩ := Own.app1 (P := Tryz.prog) (t := 71) (xt := 71) (x := tx (base p)) Tryz.underlying71 tsz9 tby9 tz9 nI71 (by omega) rfl k3.b2 rfl rfl (by omega)
    refine awpL_restE (by simp [go_sem, w1, s1, e6]; exact ⟨rfl, rfl⟩) ?_; try dsimp only [thn, inBlk]
    (repeat' first
      | refine AWP.seq ?_
      | refine AWP.block ?_
      | (refine AWP.skip ?_; try dsimp only [thn, inBlk])
      | (refine AWP.exit ?_; try simp only [thn, inBlk, if_true, reduceIte, Nat.reduceEqDiff])
      | (refine AWP.ret ?_; try dsimp only [thn, inBlk])
      | (refine AWP.condT ?_ ?_; (focus (simp [go_sem]; done)))
      | (refine AWP.condF ?_ ?_; (focus (simp [go_sem]; done)))
      | (apply AWP.rE; (focus (simp [go_sem]; exact ⟨rfl, rfl⟩)); try dsimp only [thn, inBlk])
      | fail)
    refine ⟨_, hless, seen.push st, U ++ [((p, pw), st)], ns ++ [base p], a6, c6, rfl, by simp [go_sem], i1, i2, i3, i5.symm, i4, ?_⟩
    have e7 : (ns ++ [base p]).length = ns.length + 1 := by simp
    rw [txs, e7, List.map_append]
    exact k6.p2
end
end L23
end

section
open Go Ab Go.Proofs
namespace L23
set_option autoImplicit false
set_option linter.unusedSimpArgs false
set_option linter.unusedVariables false

/-! ### Remove -/
def rmT (T : TL) (p : List UInt8) : TL := match T.findIdx? (fun x => x.1 == p) with
  | some j => T.eraseIdx j
  | none => T
def rmR (T : TL) (who p : List UInt8) : Int × TL :=
  if comeE T who p = 0 then
    if p = [47] then (1, T) else match get T p with
      | none => (110, T)
      | some _ => match get T (par p) with
        | none => (110, T)
        | some nd => if may who nd 2 = false then (114, T) else if kids T p = [] then (0, rmT T p) else (115, T)
  else (comeE T who p, T)
theorem zw_erase {α β γ : Type} (f : α → β → γ) : ∀ (l : List α) (m : List β) (j : Nat), (List.zipWith f l m).eraseIdx j = List.zipWith f (l.eraseIdx j) (m.eraseIdx j)
  | [], m, j => by simp
  | x :: l, [], j => by simp
  | x :: l, y :: m, 0 => by simp
  | x :: l, y :: m, j + 1 => by simp [zw_erase f l m j]
open Classical in
theorem filter_eraseIdx {K V : Type} {x : K} : ∀ {l : List (K × V)} {j : Nat} {v : V}, (l.map (·.1)).Nodup → l[j]? = some (x, v) → (l.filter fun q => !decide (q.1 = x)) = l.eraseIdx j
  | [], j, v, _, h => by simp at h
  | y :: l, 0, v, hn, h => by
    simp at h; subst h
    simp only [List.map_cons, List.nodup_cons] at hn
    have : (l.filter fun q => !decide (q.1 = x)) = l := by
      rw [List.filter_eq_self]
      intro q hq
      have : q.1 ≠ x := fun e => hn.1 (by rw [← e]; exact List.mem_map_of_mem hq)
      simp [this]
    simp [List.filter_cons, this]
  | y :: l, j + 1, v, hn, h => by
    simp only [List.map_cons, List.nodup_cons] at hn
    simp only [List.getElem?_cons_succ] at h
    have hy : y.1 ≠ x := fun e => hn.1 (by rw [e]; exact List.mem_map.2 ⟨_, List.mem_of_getElem? h, rfl⟩)
    rw [List.filter_cons, if_pos (by simp [hy]), filter_eraseIdx hn.2 h]
    rfl
section
variable {O : Old} {h : AHeap} {R : List Chunk} {i m : Nat} {T : TL} {ws : List Wd}
end
end L23
end

section
open Go Ab Go.Proofs
namespace L23
set_option autoImplicit false
set_option linter.unusedSimpArgs false
set_option linter.unusedVariables false

/-! ### Nodes -/
theorem keys_calls {h : AHeap} {m : Nat} : ACalls Tryz.prog 32 #[.map (some m)] h fun r h' => r = .func (.func 57) #[] #[ptr h.next] ∧ h' = h.push (.row [.map (some m)] 76 1 true false) := by
  refine ACalls.of_awp (args := [.map (some m)]) (n := 4) Tryz.func32 rfl rfl (by show 1 ≤ 4; omega) ?_
  (repeat' first
    | refine AWP.seq ?_
    | refine AWP.block ?_
    | (refine AWP.skip ?_; try dsimp only [thn, inBlk])
    | (refine AWP.exit ?_; try simp only [thn, inBlk, if_true, reduceIte, Nat.reduceEqDiff])
    | (refine AWP.ret ?_; try dsimp only [thn, inBlk])
    | (refine AWP.condT ?_ ?_; (focus (simp [go_sem]; done)))
    | (refine AWP.condF ?_ ?_; (focus (simp [go_sem]; done)))
    | (apply AWP.rE; (focus (simp [go_sem]; exact ⟨rfl, rfl⟩)); try dsimp only [thn, inBlk])
    | fail)
  simp [bodyQ, thn, inBlk, resA, resV, go_sem]
abbrev ncells (x : List UInt8 × Nd) (w : Option Addr × Nat) : List Value := [tx x.1, .bool x.2.dir, tx x.2.own, .int .i64 x.2.mode, .slice w.1 x.2.data.length w.2]
abbrev ndat (x : List UInt8 × Nd) (w : Option Addr × Nat) : Chunk := ob 5 (.slice w.1 x.2.data.length w.2) x.2.data
abbrev nds (v : Value) (xs : TL) : Chunk := grecs ncells ndat 47 5 v xs
section
variable {O : Old} {h : AHeap} {R : List Chunk} {i m : Nat} {T : TL} {ws : List Wd}
set_option maxHeartbeats 4000000 in
theorem copied_calls {x : List UInt8 × Nd} {w : Wd} (k : Own O h R) (ho : ∀ hh, Own O hh R → hh.obj w.1 = some (nrow x w)) (hx : ∀ hh, Own O hh R → Bytes hh (.slice w.2.1 x.2.data.length w.2.2) x.2.data) (hm : x.2.data.length ≤ 1000000) :
    ACalls Tryz.prog 33 #[ptr w.1] h fun r h' => ∃ a cap, r = .agg (ncells x (a, cap)).toArray ∧ Own O h' (ndat x (a, cap) :: R) := by
  refine ACalls.of_awp (args := [ptr w.1]) (n := 14) Tryz.func33 rfl rfl (by show 1 ≤ 14; omega) ?_
  obtain ⟨p, ⟨dir, own, mode, data⟩⟩ := x
  obtain ⟨n, wa, wc⟩ := w
  dsimp only at ho hx hm
  have c0 := ho h k
  obtain ⟨Z, hZ⟩ : ∃ Z, Z = AObj.row [.string ⟨#[]⟩, .bool false, .string ⟨#[]⟩, .int .i64 0, .slice none 0 0] 47 5 true false := ⟨_, rfl⟩
  have k1 := k.push Z
  have c1 := ho _ k1.tail
  have k2 : Own O (((h.push Z).push Z).set (h.next + 1) (nrow (p, ⟨dir, own, mode, data⟩) (0, wa, wc))) (cell (h.next + 1) (nrow (p, ⟨dir, own, mode, data⟩) (0, wa, wc)) :: cell h.next Z :: R) := (k1.push Z).set _
  have c2 := ho _ k2.tail.tail
  rw [hZ] at c1 c2 k2
  (repeat' first
    | refine AWP.seq ?_
    | refine AWP.block ?_
    | (refine AWP.skip ?_; try dsimp only [thn, inBlk])
    | (refine AWP.exit ?_; try simp only [thn, inBlk, if_true, reduceIte, Nat.reduceEqDiff])
    | (refine AWP.ret ?_; try dsimp only [thn, inBlk])
    | (refine AWP.condT ?_ ?_; (focus (simp [go_sem, c0, c1]; done)))
    | (refine AWP.condF ?_ ?_; (focus (simp [go_sem, c0, c1]; done)))
    | (apply AWP.rE; (focus (simp [go_sem, c0, c1]; exact ⟨rfl, rfl⟩)); try dsimp only [thn, inBlk])
    | fail)
  refine AWP.callE (by simp [go_sem, c0, c1, c2]; exact ⟨rfl, rfl, rfl, rfl, rfl⟩) (by kernel_rfl) ?_
  refine (clone_calls k2 (fun hh kk => hx hh kk.tail.tail) (by omega)).mono ?_
  rintro r h3 ⟨a3, n3, rfl, k3⟩
  have c3 := k3.b1.obj
  have k4 := k3.b1.set (nrow (p, ⟨dir, own, mode, data⟩) (0, a3, n3))
  have c4 := k4.b2.obj
  have c5 := k4.obj
  have k5 := k4.b2.set (nrow (p, ⟨dir, own, mode, data⟩) (0, a3, n3))
  have c6 := k5.obj
  have c7 := k3.b2.obj
  refine awpL_restE (by simp [go_sem, c3]; exact ⟨rfl, rfl⟩) ?_; try dsimp only [thn, inBlk]
  (repeat' first
    | refine AWP.seq ?_
    | refine AWP.block ?_
    | (refine AWP.skip ?_; try dsimp only [thn, inBlk])
    | (refine AWP.exit ?_; try simp only [thn, inBlk, if_true, reduceIte, Nat.reduceEqDiff])
    | (refine AWP.ret ?_; try dsimp only [thn, inBlk])
    | (refine AWP.condT ?_ ?_; (focus (simp [go_sem, c4, c5, c7]; done)))
    | (refine AWP.condF ?_ ?_; (focus (simp [go_sem, c4, c5, c7]; done)))
    | (apply AWP.rE; (focus (simp [go_sem, c4, c5, c7]; exact ⟨rfl, rfl⟩)); try dsimp only [thn, inBlk])
    | fail)
  simp [bodyQ, thn, inBlk, resA, resV, go_sem, c6]
  exact ⟨a3, n3, ⟨rfl, rfl⟩, k5.tail.tail⟩
end
end L23
end

section
open Go Ab Go.Proofs
namespace L23
set_option autoImplicit false
set_option linter.unusedSimpArgs false
set_option linter.unusedVariables false

def look1 (T : TL) (p : List UInt8) : List UInt8 × Nd := (p, (get T p).getD ⟨false, [], 0, []⟩)
/-- All nodes, rising by their paths. -/
def nodesL (T : TL) : TL := (srt (T.map (·.1))).map (look1 T)
theorem get_of_mem {T : TL} (h : (T.map (·.1)).Nodup) {x : List UInt8 × Nd} (hx : x ∈ T) : get T x.1 = some x.2 := by
  cases hg : get T x.1 with
  | none => exact absurd rfl (get_none hg x hx)
  | some n =>
    obtain ⟨j, hj⟩ := get_some hg
    have := inj_of_nodup (f := fun y : List UInt8 × Nd => y.1) h (List.mem_of_getElem? hj) hx rfl
    rw [← this]
section
variable {O : Old} {h : AHeap} {R : List Chunk} {i m : Nat} {T : TL} {ws : List Wd}
set_option maxHeartbeats 8000000 in
theorem nodes_calls (hI : TK T) (k : Own O h (tr i T :: R)) :
    ACalls Tryz.prog 14 #[ptr i] h fun r h' => ∃ a cap, r = .slice a (nodesL T).length cap ∧ Own O h' (nds (.slice a (nodesL T).length cap) (nodesL T) :: tr i T :: R) := by
  obtain ⟨m, ws, hw, k0⟩ := tr_iff.1 k
  have hmx := hI.mx
  refine ACalls.of_awp (args := [ptr i]) (n := 28) Tryz.func14 rfl rfl (by show 1 ≤ 28; omega) ?_
  have ci : h.obj i = some (trow m) := k0.obj
  (repeat' first
    | refine AWP.seq ?_
    | refine AWP.block ?_
    | (refine AWP.skip ?_; try dsimp only [thn, inBlk])
    | (refine AWP.exit ?_; try simp only [thn, inBlk, if_true, reduceIte, Nat.reduceEqDiff])
    | (refine AWP.ret ?_; try dsimp only [thn, inBlk])
    | (refine AWP.condT ?_ ?_; (focus (simp [go_sem]; done)))
    | (refine AWP.condF ?_ ?_; (focus (simp [go_sem]; done)))
    | (apply AWP.rE; (focus (simp [go_sem]; exact ⟨rfl, rfl⟩)); try dsimp only [thn, inBlk])
    | fail)
  refine AWP.callE (by simp [go_sem, ci]; exact ⟨rfl, rfl, rfl, rfl, rfl⟩) (by kernel_rfl) ?_
  refine (keys_calls (m := m)).mono ?_
  rintro r h1 ⟨rfl, rfl⟩
  have k1 := k0.push (.row [.map (some m)] 76 1 true false)
  have cb := k1.obj
  have k1m : Own O (h.push (.row [.map (some m)] 76 1 true false)) (mpc tx ptr m (ptrs T ws) :: cell h.next (.row [.map (some m)] 76 1 true false) :: cell i (trow m) :: (nsubs T ws ++ R)) := Own.b2 k1
  have hTn : T ≠ [] := by
    obtain ⟨nd, e⟩ := hI.tp
    rintro rfl; simp [get] at e
  have hpk := ptrs_keys hw
  have hpl := ptrs_len hw
  refine awpL_toCall (by simp [go_sem]; exact ⟨rfl, rfl, rfl, rfl, rfl⟩) (by kernel_rfl) ?_
  refine (sorted_calls cb k1m (ptrs_good hI.toTI hw) (by omega) (by rw [hpk]; exact hI.nd)).mono ?_
  rintro r h2 hv
  obtain ⟨_, rfl, rfl⟩ : ptrs T ws ≠ [] ∧ r = _ ∧ h2 = _ := by
    rcases hv with ⟨e, _⟩ | hv
    · have := congrArg List.length e
      rw [hpl] at this
      exact absurd (List.eq_nil_of_length_eq_zero this) hTn
    · exact hv
  rw [hpk, hpl]
  obtain ⟨ss, hss⟩ : ∃ ss, ss = srt (T.map (·.1)) := ⟨_, rfl⟩
  have hsl : ss.length = T.length := by rw [hss]; show (List.mergeSort _ _).length = _; rw [List.length_mergeSort, List.length_map]
  have hsm : ∀ p ∈ ss, ∃ nd, get T p = some nd := fun p hp => by
    have : p ∈ T.map (·.1) := by rw [hss] at hp; exact (List.mergeSort_perm _ _).mem_iff.1 hp
    obtain ⟨x, hx, rfl⟩ := List.mem_map.1 this
    exact ⟨_, get_of_mem hI.nd hx⟩
  have hnl : nodesL T = ss.map (look1 T) := by rw [hss]; rfl
  rw [show List.mergeSort (T.map (·.1)) Go.leB = ss from hss.symm]
  obtain ⟨H1, hH1⟩ : ∃ H1, H1 = h.push (.row [.map (some m)] 76 1 true false) := ⟨_, rfl⟩
  rw [← hH1] at k1 ⊢
  have k2 : Own O (H1.push (.row (ss.map Ab.T) 9 1 false false)) (txs (.slice (some ⟨H1.next, 0, none⟩) ss.length ss.length) ss :: (tro i m T ws ++ R)) :=
    (k1.tail.push (.row (ss.map Ab.T) 9 1 false false)).os_mk (n := ss.length) (cap := ss.length) (off := 0) (Nat.le_refl _) (by simp) (by rw [Nat.mul_one, List.drop_zero, List.take_of_length_le (by simp)])
  rw [← hsl]
  generalize H1.push (.row (ss.map Ab.T) 9 1 false false) = H2 at k2 ⊢
  generalize H1.next = n2 at k2 ⊢
  refine awpL_restE (by simp [go_sem]; exact ⟨rfl, rfl⟩) ?_; try dsimp only [thn, inBlk]
  (repeat' first
    | refine AWP.seq ?_
    | refine AWP.block ?_
    | (refine AWP.skip ?_; try dsimp only [thn, inBlk])
    | (refine AWP.exit ?_; try simp only [thn, inBlk, if_true, reduceIte, Nat.reduceEqDiff])
    | (refine AWP.ret ?_; try dsimp only [thn, inBlk])
    | (refine AWP.condT ?_ ?_; (focus (simp [go_sem]; done)))
    | (refine AWP.condF ?_ ?_; (focus (simp [go_sem]; done)))
    | (apply AWP.rE; (focus (simp [go_sem]; exact ⟨rfl, rfl⟩)); try dsimp only [thn, inBlk])
    | fail)
  have k3 := k2.grecs_nil (row := ncells) (sub := ndat) 47 5
  refine AWP.loopR [0, 2, 10, 11, 12] (fun n s h' => ∃ (j : Nat) (a : Option Addr) (cap : Nat), j ≤ ss.length ∧ n = ss.length - j ∧ s = ⟨28, [(0, ptr i), (2, .slice a j cap), (10, .slice (some ⟨n2, 0, none⟩) ss.length ss.length), (11, .int .i64 ss.length), (12, .int .i64 j)]⟩ ∧
    Own O h' (nds (.slice a j cap) ((ss.take j).map (look1 T)) :: txs (.slice (some ⟨n2, 0, none⟩) ss.length ss.length) ss :: (tro i m T ws ++ R))) ?_ ?_
  · exact ⟨_, 0, none, 0, by omega, rfl, by simp [go_sem], k3⟩
  rintro n s hB ⟨j, a, cap, hj, rfl, rfl, kB⟩
  by_cases hjm : j < ss.length
  rotate_left
  · have hjm' : ¬ (j : Int) < ss.length := by omega
    obtain rfl : j = ss.length := by omega
    rw [List.take_length, ← hnl] at kB
    have hlen : (nodesL T).length = ss.length := by rw [hnl, List.length_map]
    (repeat' first
      | refine AWP.seq ?_
      | refine AWP.block ?_
      | (refine AWP.skip ?_; try dsimp only [thn, inBlk])
      | (refine AWP.exit ?_; try simp only [thn, inBlk, if_true, reduceIte, Nat.reduceEqDiff])
      | (refine AWP.ret ?_; try dsimp only [thn, inBlk])
      | (refine AWP.condT ?_ ?_; (focus (simp [go_sem, hjm']; done)))
      | (refine AWP.condF ?_ ?_; (focus (simp [go_sem, hjm']; done)))
      | (apply AWP.rE; (focus (simp [go_sem, hjm']; exact ⟨rfl, rfl⟩)); try dsimp only [thn, inBlk])
      | fail)
    simp [bodyQ, thn, inBlk, resA, resV, go_sem]
    refine ⟨a, cap, ⟨rfl, hlen.symm, rfl⟩, ?_⟩
    rw [hlen]
    exact (tr_iff.2 ⟨m, ws, hw, kB.d1.perm List.perm_middle.symm⟩).b1
  have hjm' : (j : Int) < ss.length := by omega
  have hgj : (ss.map Ab.T)[j]? = some (tx ss[j]) := by simp [hjm, Ab.T]
  have hml := hsm ss[j] (List.getElem_mem _)
  have htk : ss.take (j + 1) = ss.take j ++ [ss[j]] := List.take_succ_eq_append_getElem hjm
  obtain ⟨bi, bo, c, e', sz, ti, ro, q1, q2, q3⟩ := kB.b1.os_sl.at1 (P := Tryz.prog) (t := 71) Tryz.underlying71 tsz9 hjm hgj (kd := .i64)
  generalize ss[j] = p at q3 hml htk
  obtain ⟨nd, hgp⟩ := hml
  obtain ⟨j2, w, t1, t2, t3, _⟩ := pv_at hw hgp
  have hplen := hI.pl _ (List.mem_of_getElem? t1)
  have hdl := hI.dl _ (List.mem_of_getElem? t1)
  dsimp only at hplen hdl
  have hlk := tlook hI.toTI hw kB.tail.tail hplen
  rw [t3] at hlk
  have ciB : hB.obj i = some (trow m) := kB.tail.tail.obj
  have w1 : IntKind.i64.wrap ((j : Int) + 1) = ((j + 1 : Nat) : Int) := by rw [wI64 (by omega) (by omega)]; omega
  (repeat' first
    | refine AWP.seq ?_
    | refine AWP.block ?_
    | (refine AWP.skip ?_; try dsimp only [thn, inBlk])
    | (refine AWP.exit ?_; try simp only [thn, inBlk, if_true, reduceIte, Nat.reduceEqDiff])
    | (refine AWP.ret ?_; try dsimp only [thn, inBlk])
    | (refine AWP.condT ?_ ?_; (focus (simp [go_sem, hjm', q1, q2, q3]; done)))
    | (refine AWP.condF ?_ ?_; (focus (simp [go_sem, hjm', q1, q2, q3]; done)))
    | (apply AWP.rE; (focus (simp [go_sem, hjm', q1, q2, q3]; exact ⟨rfl, rfl⟩)); try dsimp only [thn, inBlk])
    | fail)
  refine AWP.callE (by simp [go_sem, ciB, hlk]; exact ⟨rfl, rfl, rfl, rfl, rfl⟩) (by kernel_rfl) ?_
  refine (copied_calls (x := (p, nd)) (w := w) kB (fun hh kk => (node_open kk.tail.tail t1 t2).obj) (fun hh kk => (node_open kk.tail.tail t1 t2).tail.ob_bytes) (by dsimp only; omega)).mono ?_
  rintro r h4 ⟨a4, c4, rfl, k4⟩
  have hxl : ((ss.take j).map (look1 T)).length = j := by simp; omega
  obtain ⟨a6, c6, h6, e6, k6⟩ := Own.grecs_app (row := ncells) (sub := ndat) (P := Tryz.prog) (t := 39) (xt := 39) (x := (p, nd)) (w := (a4, c4)) Tryz.underlying39 tsz47 tby47 tz47 nI39 (by omega) (by omega) rfl rfl rfl k4.b1 rfl (by omega)
  rw [hxl] at e6 k6
  refine awpL_restE (by simp [go_sem, e6]; exact ⟨rfl, rfl⟩) ?_; try dsimp only [thn, inBlk]
  (repeat' first
    | refine AWP.seq ?_
    | refine AWP.block ?_
    | (refine AWP.skip ?_; try dsimp only [thn, inBlk])
    | (refine AWP.exit ?_; try simp only [thn, inBlk, if_true, reduceIte, Nat.reduceEqDiff])
    | (refine AWP.ret ?_; try dsimp only [thn, inBlk])
    | (refine AWP.condT ?_ ?_; (focus (simp [go_sem, w1]; done)))
    | (refine AWP.condF ?_ ?_; (focus (simp [go_sem, w1]; done)))
    | (apply AWP.rE; (focus (simp [go_sem, w1]; exact ⟨rfl, rfl⟩)); try dsimp only [thn, inBlk])
    | fail)
  refine ⟨ss.length - (j + 1), by omega, j + 1, a6, c6, by omega, rfl, by simp [go_sem], ?_⟩
  have e9 : look1 T p = (p, nd) := by simp [look1, hgp]
  rw [htk, List.map_append, List.map_cons, List.map_nil, e9]
  exact k6
end
end L23
end

section
open Go Ab Go.Proofs
namespace L23
set_option autoImplicit false
set_option linter.unusedSimpArgs false
set_option linter.unusedVariables false

/-! ### Two lists of nodes that are one -/
abbrev Nk := List UInt8 × Bool × List UInt8 × Nat
def preN (x : Nk) : List Value := [tx x.1, .bool x.2.1, tx x.2.2.1, .int .i64 x.2.2.2]
def nk (x : List UInt8 × Nd) : Nk × List UInt8 := ((x.1, x.2.dir, x.2.own, x.2.mode), x.2.data)
theorem nds_br {O : Old} {h : AHeap} {R : List Chunk} {v : Value} {xs : TL} (k : Own O h (nds v xs :: R)) : BR preN 5 h v (xs.map nk) := by
  obtain ⟨ws, hw, k0⟩ := grecs_iff.1 k
  have e : rcells preN (xs.map nk) ws = gcells ncells xs ws := by
    simp only [rcells, gcells]
    rw [List.zipWith_map_left]
    apply List.ext_getElem?
    intro j
    simp only [List.getElem?_zipWith]
    cases xs[j]? <;> cases ws[j]? <;> rfl
  refine ⟨ws, by simp [hw], by rw [e, List.length_map]; exact k0.os_sl, fun j f p hf hp => ?_⟩
  rw [List.getElem?_map] at hf
  obtain ⟨x, hx, rfl⟩ := Option.map_eq_some_iff.1 hf
  exact (k0.tail.mem (gsubs_get (sub := ndat) hx hp)).ob_bytes
theorem nk_at {h : AHeap} {v : Value} {l : List (Nk × List UInt8)} (k : BR preN 5 h v l) {j : Nat} (hj : j < l.length) {kd : IntKind} :
    ∃ i off c e' sz' ti ro a cap, indexAddrP Tryz.prog 39 v (.int kd j) = some (.pointer (some ⟨i, off, none⟩)) ∧ h.obj i = some (.row c e' sz' ti ro) ∧ c[off]? = some (tx l[j].1.1) ∧ c[off + 1]? = some (.bool l[j].1.2.1) ∧ c[off + 2]? = some (tx l[j].1.2.2.1) ∧ c[off + 3]? = some (.int .i64 l[j].1.2.2.2) ∧ c[off + 4]? = some (.slice a l[j].2.length cap) ∧ Bytes h (.slice a l[j].2.length cap) l[j].2 := by
  obtain ⟨i, off, c, e', sz', ti, ro, a, cap, h1, h2, h3, h4, h5, h6⟩ := k.at (P := Tryz.prog) (fun _ => rfl) Tryz.underlying39 tsz47 hj (kd := kd)
  exact ⟨i, off, c, e', sz', ti, ro, a, cap, h1, h2, h5 0 _ rfl, h5 1 _ rfl, h5 2 _ rfl, h5 3 _ rfl, h5 4 _ rfl, h6⟩
set_option maxHeartbeats 4000000 in
theorem same_calls {h : AHeap} {v1 v2 : Value} {l : List (Nk × List UInt8)} (b1 : BR preN 5 h v1 l) (b2 : BR preN 5 h v2 l) (hm : l.length ≤ 1000000000) :
    ACalls Tryz.prog 13 #[v1, v2] h fun v h' => v = .bool true ∧ h' = h := by
  obtain ⟨xa, xc, rfl⟩ := b1.val
  obtain ⟨ya, yc, rfl⟩ := b2.val
  refine ACalls.of_awp (args := [.slice xa l.length xc, .slice ya l.length yc]) (n := 82) Tryz.func13 rfl rfl (by show 2 ≤ 82; omega) ?_
  (repeat' first
    | refine AWP.seq ?_
    | refine AWP.block ?_
    | (refine AWP.skip ?_; try dsimp only [thn, inBlk])
    | (refine AWP.exit ?_; try simp only [thn, inBlk, if_true, reduceIte, Nat.reduceEqDiff])
    | (refine AWP.ret ?_; try dsimp only [thn, inBlk])
    | (refine AWP.condT ?_ ?_; (focus (simp [go_sem]; done)))
    | (refine AWP.condF ?_ ?_; (focus (simp [go_sem]; done)))
    | (apply AWP.rE; (focus (simp [go_sem]; exact ⟨rfl, rfl⟩)); try dsimp only [thn, inBlk])
    | (apply AWP.dE hmix [.n 0 [0], .n 1 [5], .n 2 [17, 18], .n 3 [19], .n 4 [20], .n 5 [1], .n 6 [5], .n 7 [22, 23], .n 8 [24], .n 9 [25], .n 10 [21, 26], .n 11 [27], .n 12 [0, 28], .n 13 [5, 28], .n 14 [29, 30, 28], .n 15 [31, 28], .n 16 [32, 28], .n 17 [1, 28], .n 18 [5, 28], .n 19 [34, 35, 28], .n 20 [36, 28], .n 21 [37, 28], .n 22 [33, 38, 28], .n 23 [28, 39], .n 24 [40], .n 25 [0, 41], .n 26 [5, 41], .n 27 [42, 43, 41], .n 28 [44, 41], .n 29 [45, 41], .n 30 [1, 41], .n 31 [5, 41], .n 32 [47, 48, 41], .n 33 [49, 41], .n 34 [50, 41], .n 35 [46, 51, 41], .n 36 [41, 52], .n 37 [53], .n 38 [0, 54], .n 39 [5, 54], .n 40 [55, 56, 54], .n 41 [57, 54], .n 42 [58, 54], .n 43 [1, 54], .n 44 [5, 54], .n 45 [60, 61, 54], .n 46 [62, 54], .n 47 [63, 54], .n 48 [59, 64, 54], .n 49 [54, 65], .n 50 [66], .n 51 [0, 67], .n 52 [5, 67], .n 53 [68, 69, 67], .n 54 [70, 67], .n 55 [71, 67], .n 56 [72, 67], .n 57 [1, 67], .n 58 [5, 67], .n 59 [74, 75, 67], .n 60 [76, 67], .n 61 [77, 67], .n 62 [78, 67], .n 63 [73, 79, 67], .n 64 [67, 80]]; (focus kernel_rfl); (focus (simp [go_sem]; exact ⟨rfl, rfl⟩)); try dsimp only [thn, inBlk])
    | fail)
  refine AWP.loopR [0, 1, 5] (fun m s h' => ∃ j : Nat, j ≤ l.length ∧ m = l.length - j ∧ s = ⟨82, [(0, .slice xa l.length xc), (1, .slice ya l.length yc), (5, .int .i64 j)]⟩ ∧ h' = h) ?_ ?_
  · exact ⟨_, 0, by omega, rfl, rfl, rfl⟩
  rintro m s h' ⟨j, hj, rfl, rfl, rfl⟩
  by_cases hj0 : j < l.length
  rotate_left
  · have hj1 : ¬ (j : Int) < l.length := by omega
    (repeat' first
      | refine AWP.seq ?_
      | refine AWP.block ?_
      | (refine AWP.skip ?_; try dsimp only [thn, inBlk])
      | (refine AWP.exit ?_; try simp only [thn, inBlk, if_true, reduceIte, Nat.reduceEqDiff])
      | (refine AWP.ret ?_; try dsimp only [thn, inBlk])
      | (refine AWP.condT ?_ ?_; (focus (simp [go_sem, hj1]; done)))
      | (refine AWP.condF ?_ ?_; (focus (simp [go_sem, hj1]; done)))
      | (apply AWP.rE; (focus (simp [go_sem, hj1]; exact ⟨rfl, rfl⟩)); try dsimp only [thn, inBlk])
      | (apply AWP.dE hmix [.n 0 [0], .n 1 [5], .n 2 [17, 18], .n 3 [19], .n 4 [20], .n 5 [1], .n 6 [5], .n 7 [22, 23], .n 8 [24], .n 9 [25], .n 10 [21, 26], .n 11 [27], .n 12 [0, 28], .n 13 [5, 28], .n 14 [29, 30, 28], .n 15 [31, 28], .n 16 [32, 28], .n 17 [1, 28], .n 18 [5, 28], .n 19 [34, 35, 28], .n 20 [36, 28], .n 21 [37, 28], .n 22 [33, 38, 28], .n 23 [28, 39], .n 24 [40], .n 25 [0, 41], .n 26 [5, 41], .n 27 [42, 43, 41], .n 28 [44, 41], .n 29 [45, 41], .n 30 [1, 41], .n 31 [5, 41], .n 32 [47, 48, 41], .n 33 [49, 41], .n 34 [50, 41], .n 35 [46, 51, 41], .n 36 [41, 52], .n 37 [53], .n 38 [0, 54], .n 39 [5, 54], .n 40 [55, 56, 54], .n 41 [57, 54], .n 42 [58, 54], .n 43 [1, 54], .n 44 [5, 54], .n 45 [60, 61, 54], .n 46 [62, 54], .n 47 [63, 54], .n 48 [59, 64, 54], .n 49 [54, 65], .n 50 [66], .n 51 [0, 67], .n 52 [5, 67], .n 53 [68, 69, 67], .n 54 [70, 67], .n 55 [71, 67], .n 56 [72, 67], .n 57 [1, 67], .n 58 [5, 67], .n 59 [74, 75, 67], .n 60 [76, 67], .n 61 [77, 67], .n 62 [78, 67], .n 63 [73, 79, 67], .n 64 [67, 80]]; (focus kernel_rfl); (focus (simp [go_sem, hj1]; exact ⟨rfl, rfl⟩)); try dsimp only [thn, inBlk])
      | fail)
    simp [bodyQ, thn, inBlk, resA, resV, go_sem]
  have hj1 : (j : Int) < l.length := by omega
  have w1 : IntKind.i64.wrap ((j : Int) + 1) = ((j + 1 : Nat) : Int) := by rw [wI64 (by omega) (by omega)]; omega
  obtain ⟨i0, o0, c0, e0, z0, ti0, ro0, a0, n0, p0, q0, f0, f1, f2, f3, f4, b0⟩ := nk_at b1 hj0 (kd := .i64)
  obtain ⟨i3, o3, c3, e3, z3, ti3, ro3, a3, n3, p3, q3, g0, g1, g2, g3, g4, b3⟩ := nk_at b2 hj0 (kd := .i64)
  have s0 := b0.str (P := Tryz.prog) (t := 32) (e := 5) (u := 9) Tryz.underlying32 Tryz.underlying5 Tryz.underlying9
  have s3 := b3.str (P := Tryz.prog) (t := 32) (e := 5) (u := 9) Tryz.underlying32 Tryz.underlying5 Tryz.underlying9
  generalize l[j] = x at f0 f1 f2 f3 f4 g0 g1 g2 g3 g4 s0 s3
  obtain ⟨⟨x1, x2, x3, x4⟩, x5⟩ := x
  dsimp only at f0 f1 f2 f3 f4 g0 g1 g2 g3 g4 s0 s3
  (repeat' first
    | refine AWP.seq ?_
    | refine AWP.block ?_
    | (refine AWP.skip ?_; try dsimp only [thn, inBlk])
    | (refine AWP.exit ?_; try simp only [thn, inBlk, if_true, reduceIte, Nat.reduceEqDiff])
    | (refine AWP.ret ?_; try dsimp only [thn, inBlk])
    | (refine AWP.condT ?_ ?_; (focus (simp [go_sem, hj1, p0, q0, f0, f1, f2, f3, f4, p3, q3, g0, g1, g2, g3, g4, s0, s3, w1]; done)))
    | (refine AWP.condF ?_ ?_; (focus (simp [go_sem, hj1, p0, q0, f0, f1, f2, f3, f4, p3, q3, g0, g1, g2, g3, g4, s0, s3, w1]; done)))
    | (apply AWP.rE; (focus (simp [go_sem, hj1, p0, q0, f0, f1, f2, f3, f4, p3, q3, g0, g1, g2, g3, g4, s0, s3, w1]; exact ⟨rfl, rfl⟩)); try dsimp only [thn, inBlk])
    | (apply AWP.dE hmix [.n 0 [0], .n 1 [5], .n 2 [17, 18], .n 3 [19], .n 4 [20], .n 5 [1], .n 6 [5], .n 7 [22, 23], .n 8 [24], .n 9 [25], .n 10 [21, 26], .n 11 [27], .n 12 [0, 28], .n 13 [5, 28], .n 14 [29, 30, 28], .n 15 [31, 28], .n 16 [32, 28], .n 17 [1, 28], .n 18 [5, 28], .n 19 [34, 35, 28], .n 20 [36, 28], .n 21 [37, 28], .n 22 [33, 38, 28], .n 23 [28, 39], .n 24 [40], .n 25 [0, 41], .n 26 [5, 41], .n 27 [42, 43, 41], .n 28 [44, 41], .n 29 [45, 41], .n 30 [1, 41], .n 31 [5, 41], .n 32 [47, 48, 41], .n 33 [49, 41], .n 34 [50, 41], .n 35 [46, 51, 41], .n 36 [41, 52], .n 37 [53], .n 38 [0, 54], .n 39 [5, 54], .n 40 [55, 56, 54], .n 41 [57, 54], .n 42 [58, 54], .n 43 [1, 54], .n 44 [5, 54], .n 45 [60, 61, 54], .n 46 [62, 54], .n 47 [63, 54], .n 48 [59, 64, 54], .n 49 [54, 65], .n 50 [66], .n 51 [0, 67], .n 52 [5, 67], .n 53 [68, 69, 67], .n 54 [70, 67], .n 55 [71, 67], .n 56 [72, 67], .n 57 [1, 67], .n 58 [5, 67], .n 59 [74, 75, 67], .n 60 [76, 67], .n 61 [77, 67], .n 62 [78, 67], .n 63 [73, 79, 67], .n 64 [67, 80]]; (focus kernel_rfl); (focus (simp [go_sem, hj1, p0, q0, f0, f1, f2, f3, f4, p3, q3, g0, g1, g2, g3, g4, s0, s3, w1]; exact ⟨rfl, rfl⟩)); try dsimp only [thn, inBlk])
    | fail)
  exact ⟨l.length - (j + 1), by omega, j + 1, by omega, rfl, by simp [go_sem], rfl⟩
end L23
end

