import Derived.Test.YteodcjamnfoidaaDoorL19t
open Go Ab Go.Proofs
namespace L19
set_option autoImplicit false
set_option linter.unusedSimpArgs false
set_option linter.unusedVariables false

def look1 (T : TL) (p : List UInt8) : List UInt8 × Nd := (p, (get T p).getD ⟨false, [], 0, []⟩)
/-- All nodes, rising by their paths. -/
def nodesL (T : TL) : TL := (srt (T.map (·.1))).map (look1 T)
theorem get_of_mem {T : TL} (h : (T.map (·.1)).Nodup) {x : List UInt8 × Nd} (hx : x ∈ T) : get T x.1 = some x.2 := by
  cases hg : get T x.1 with
  | none => exact absurd rfl (get_none hg x hx)
  | some n =>
    obtain ⟨j, hj⟩ := get_some hg
    have := inj_of_nodup (f := fun y : List UInt8 × Nd => y.1) h (List.mem_of_getElem? hj) hx rfl
    rw [← this]
section
variable {O : Old} {h : AHeap} {R : List Chunk} {i m : Nat} {T : TL} {ws : List Wd}
set_option maxHeartbeats 8000000 in
theorem nodes_calls (hI : TK T) (k : Own O h (tr i T :: R)) :
    ACalls Tryd.prog 17 #[ptr i] h fun r h' => ∃ a cap, r = .slice a (nodesL T).length cap ∧ Own O h' (nds (.slice a (nodesL T).length cap) (nodesL T) :: tr i T :: R) := by
  obtain ⟨m, ws, hw, k0⟩ := tr_iff.1 k
  have hmx := hI.mx
  refine ACalls.of_awp (args := [ptr i]) (n := 28) Tryd.func17 rfl rfl (by show 1 ≤ 28; omega) ?_
  have ci : h.obj i = some (trow m) := k0.obj
  (repeat' first
    | refine AWP.seq ?_
    | refine AWP.block ?_
    | (refine AWP.skip ?_; try dsimp only [thn, inBlk])
    | (refine AWP.exit ?_; try simp only [thn, inBlk, if_true, reduceIte, Nat.reduceEqDiff])
    | (refine AWP.ret ?_; try dsimp only [thn, inBlk])
    | (refine AWP.condT ?_ ?_; (focus (simp [go_sem]; done)))
    | (refine AWP.condF ?_ ?_; (focus (simp [go_sem]; done)))
    | (apply AWP.rE; (focus (simp [go_sem]; exact ⟨rfl, rfl⟩)); try dsimp only [thn, inBlk])
    | fail)
  refine AWP.callE (by simp [go_sem, ci]; exact ⟨rfl, rfl, rfl, rfl, rfl⟩) (by kernel_rfl) ?_
  refine (keys_calls (m := m)).mono ?_
  rintro r h1 ⟨rfl, rfl⟩
  have k1 := k0.push (.row [.map (some m)] 60 1 true false)
  have cb := k1.obj
  have k1m : Own O (h.push (.row [.map (some m)] 60 1 true false)) (mpc tx ptr m (ptrs T ws) :: cell h.next (.row [.map (some m)] 60 1 true false) :: cell i (trow m) :: (nsubs T ws ++ R)) := Own.b2 k1
  have hTn : T ≠ [] := by
    obtain ⟨nd, e⟩ := hI.tp
    rintro rfl; simp [get] at e
  have hpk := ptrs_keys hw
  have hpl := ptrs_len hw
  refine awpL_toCall (by simp [go_sem]; exact ⟨rfl, rfl, rfl, rfl, rfl⟩) (by kernel_rfl) ?_
  refine (sorted_calls cb k1m (ptrs_good hI.toTI hw) (by omega) (by rw [hpk]; exact hI.nd)).mono ?_
  rintro r h2 hv
  obtain ⟨_, rfl, rfl⟩ : ptrs T ws ≠ [] ∧ r = _ ∧ h2 = _ := by
    rcases hv with ⟨e, _⟩ | hv
    · have := congrArg List.length e
      rw [hpl] at this
      exact absurd (List.eq_nil_of_length_eq_zero this) hTn
    · exact hv
  rw [hpk, hpl]
  obtain ⟨ss, hss⟩ : ∃ ss, ss = srt (T.map (·.1)) := ⟨_, rfl⟩
  have hsl : ss.length = T.length := by rw [hss]; show (List.mergeSort _ _).length = _; rw [List.length_mergeSort, List.length_map]
  have hsm : ∀ p ∈ ss, ∃ nd, get T p = some nd := fun p hp => by
    have : p ∈ T.map (·.1) := by rw [hss] at hp; exact (List.mergeSort_perm _ _).mem_iff.1 hp
    obtain ⟨x, hx, rfl⟩ := List.mem_map.1 this
    exact ⟨_, get_of_mem hI.nd hx⟩
  have hnl : nodesL T = ss.map (look1 T) := by rw [hss]; rfl
  rw [show List.mergeSort (T.map (·.1)) Go.leB = ss from hss.symm]
  obtain ⟨H1, hH1⟩ : ∃ H1, H1 = h.push (.row [.map (some m)] 60 1 true false) := ⟨_, rfl⟩
  rw [← hH1] at k1 ⊢
  have k2 : Own O (H1.push (.row (ss.map Ab.T) 9 1 false false)) (txs (.slice (some ⟨H1.next, 0, none⟩) ss.length ss.length) ss :: (tro i m T ws ++ R)) :=
    (k1.tail.push (.row (ss.map Ab.T) 9 1 false false)).os_mk (n := ss.length) (cap := ss.length) (off := 0) (Nat.le_refl _) (by simp) (by rw [Nat.mul_one, List.drop_zero, List.take_of_length_le (by simp)])
  rw [← hsl]
  generalize H1.push (.row (ss.map Ab.T) 9 1 false false) = H2 at k2 ⊢
  generalize H1.next = n2 at k2 ⊢
  refine awpL_restE (by simp [go_sem]; exact ⟨rfl, rfl⟩) ?_; try dsimp only [thn, inBlk]
  (repeat' first
    | refine AWP.seq ?_
    | refine AWP.block ?_
    | (refine AWP.skip ?_; try dsimp only [thn, inBlk])
    | (refine AWP.exit ?_; try simp only [thn, inBlk, if_true, reduceIte, Nat.reduceEqDiff])
    | (refine AWP.ret ?_; try dsimp only [thn, inBlk])
    | (refine AWP.condT ?_ ?_; (focus (simp [go_sem]; done)))
    | (refine AWP.condF ?_ ?_; (focus (simp [go_sem]; done)))
    | (apply AWP.rE; (focus (simp [go_sem]; exact ⟨rfl, rfl⟩)); try dsimp only [thn, inBlk])
    | fail)
  have k3 := k2.grecs_nil (row := ncells) (sub := ndat) 43 5
  refine AWP.loopR [0, 2, 10, 11, 12] (fun n s h' => ∃ (j : Nat) (a : Option Addr) (cap : Nat), j ≤ ss.length ∧ n = ss.length - j ∧ s = ⟨28, [(0, ptr i), (2, .slice a j cap), (10, .slice (some ⟨n2, 0, none⟩) ss.length ss.length), (11, .int .i64 ss.length), (12, .int .i64 j)]⟩ ∧
    Own O h' (nds (.slice a j cap) ((ss.take j).map (look1 T)) :: txs (.slice (some ⟨n2, 0, none⟩) ss.length ss.length) ss :: (tro i m T ws ++ R))) ?_ ?_
  · exact ⟨_, 0, none, 0, by omega, rfl, by simp [go_sem], k3⟩
  rintro n s hB ⟨j, a, cap, hj, rfl, rfl, kB⟩
  by_cases hjm : j < ss.length
  rotate_left
  · have hjm' : ¬ (j : Int) < ss.length := by omega
    obtain rfl : j = ss.length := by omega
    rw [List.take_length, ← hnl] at kB
    have hlen : (nodesL T).length = ss.length := by rw [hnl, List.length_map]
    (repeat' first
      | refine AWP.seq ?_
      | refine AWP.block ?_
      | (refine AWP.skip ?_; try dsimp only [thn, inBlk])
      | (refine AWP.exit ?_; try simp only [thn, inBlk, if_true, reduceIte, Nat.reduceEqDiff])
      | (refine AWP.ret ?_; try dsimp only [thn, inBlk])
      | (refine AWP.condT ?_ ?_; (focus (simp [go_sem, hjm']; done)))
      | (refine AWP.condF ?_ ?_; (focus (simp [go_sem, hjm']; done)))
      | (apply AWP.rE; (focus (simp [go_sem, hjm']; exact ⟨rfl, rfl⟩)); try dsimp only [thn, inBlk])
      | fail)
    simp [bodyQ, thn, inBlk, resA, resV, go_sem]
    refine ⟨a, cap, ⟨rfl, hlen.symm, rfl⟩, ?_⟩
    rw [hlen]
    exact (tr_iff.2 ⟨m, ws, hw, kB.d1.perm List.perm_middle.symm⟩).b1
  have hjm' : (j : Int) < ss.length := by omega
  have hgj : (ss.map Ab.T)[j]? = some (tx ss[j]) := by simp [hjm, Ab.T]
  have hml := hsm ss[j] (List.getElem_mem _)
  have htk : ss.take (j + 1) = ss.take j ++ [ss[j]] := List.take_succ_eq_append_getElem hjm
  obtain ⟨bi, bo, c, e', sz, ti, ro, q1, q2, q3⟩ := kB.b1.os_sl.at1 (P := Tryd.prog) (t := 69) Tryd.underlying69 tsz9 hjm hgj (kd := .i64)
  generalize ss[j] = p at q3 hml htk
  obtain ⟨nd, hgp⟩ := hml
  obtain ⟨j2, w, t1, t2, t3, _⟩ := pv_at hw hgp
  have hplen := hI.pl _ (List.mem_of_getElem? t1)
  have hdl := hI.dl _ (List.mem_of_getElem? t1)
  dsimp only at hplen hdl
  have hlk := tlook hI.toTI hw kB.tail.tail hplen
  rw [t3] at hlk
  have ciB : hB.obj i = some (trow m) := kB.tail.tail.obj
  have w1 : IntKind.i64.wrap ((j : Int) + 1) = ((j + 1 : Nat) : Int) := by rw [wI64 (by omega) (by omega)]; omega
  (repeat' first
    | refine AWP.seq ?_
    | refine AWP.block ?_
    | (refine AWP.skip ?_; try dsimp only [thn, inBlk])
    | (refine AWP.exit ?_; try simp only [thn, inBlk, if_true, reduceIte, Nat.reduceEqDiff])
    | (refine AWP.ret ?_; try dsimp only [thn, inBlk])
    | (refine AWP.condT ?_ ?_; (focus (simp [go_sem, hjm', q1, q2, q3]; done)))
    | (refine AWP.condF ?_ ?_; (focus (simp [go_sem, hjm', q1, q2, q3]; done)))
    | (apply AWP.rE; (focus (simp [go_sem, hjm', q1, q2, q3]; exact ⟨rfl, rfl⟩)); try dsimp only [thn, inBlk])
    | fail)
  refine AWP.callE (by simp [go_sem, ciB, hlk]; exact ⟨rfl, rfl, rfl, rfl, rfl⟩) (by kernel_rfl) ?_
  refine (copied_calls (x := (p, nd)) (w := w) kB (fun hh kk => (node_open kk.tail.tail t1 t2).obj) (fun hh kk => (node_open kk.tail.tail t1 t2).tail.ob_bytes) (by dsimp only; omega)).mono ?_
  rintro r h4 ⟨a4, c4, rfl, k4⟩
  have hxl : ((ss.take j).map (look1 T)).length = j := by simp; omega
  obtain ⟨a6, c6, h6, e6, k6⟩ := Own.grecs_app (row := ncells) (sub := ndat) (P := Tryd.prog) (t := 40) (xt := 40) (x := (p, nd)) (w := (a4, c4)) Tryd.underlying40 tsz43 tby43 tz43 nI40 (by omega) (by omega) rfl rfl rfl k4.b1 rfl (by omega)
  rw [hxl] at e6 k6
  refine awpL_restE (by simp [go_sem, e6]; exact ⟨rfl, rfl⟩) ?_; try dsimp only [thn, inBlk]
  (repeat' first
    | refine AWP.seq ?_
    | refine AWP.block ?_
    | (refine AWP.skip ?_; try dsimp only [thn, inBlk])
    | (refine AWP.exit ?_; try simp only [thn, inBlk, if_true, reduceIte, Nat.reduceEqDiff])
    | (refine AWP.ret ?_; try dsimp only [thn, inBlk])
    | (refine AWP.condT ?_ ?_; (focus (simp [go_sem, w1]; done)))
    | (refine AWP.condF ?_ ?_; (focus (simp [go_sem, w1]; done)))
    | (apply AWP.rE; (focus (simp [go_sem, w1]; exact ⟨rfl, rfl⟩)); try dsimp only [thn, inBlk])
    | fail)
  refine ⟨ss.length - (j + 1), by omega, j + 1, a6, c6, by omega, rfl, by simp [go_sem], ?_⟩
  have e9 : look1 T p = (p, nd) := by simp [look1, hgp]
  rw [htk, List.map_append, List.map_cons, List.map_nil, e9]
  exact k6
end
end L19
