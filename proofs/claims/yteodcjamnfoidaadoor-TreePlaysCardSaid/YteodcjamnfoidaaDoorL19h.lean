import Derived.Test.YteodcjamnfoidaaDoorL19g
open Go Ab Go.Proofs
namespace L19
set_option autoImplicit false
set_option linter.unusedSimpArgs false
set_option linter.unusedVariables false

theorem clone_calls {O : Old} {h : AHeap} {R : List Chunk} {v : Value} {bs : List UInt8} (k : Own O h R) (hx : ∀ h, Own O h R → Bytes h v bs) (hm : bs.length ≤ 140737488355328) :
    ACalls Tryd.prog 32 #[v] h fun r h' => ∃ a cap, r = .slice a bs.length cap ∧ Own O h' (ob 5 (.slice a bs.length cap) bs :: R) := by
  refine ACalls.of_awp (args := [v]) (n := 8) Tryd.func32 rfl rfl (by show 1 ≤ 8; omega) ?_
  rcases hx h k with ⟨rfl, rfl⟩ | ⟨i, off, cap, c, e, sz, ti, ro, rfl, _⟩
  · (repeat' first
      | refine AWP.seq ?_
      | refine AWP.block ?_
      | (refine AWP.skip ?_; try dsimp only [thn, inBlk])
      | (refine AWP.exit ?_; try simp only [thn, inBlk, if_true, reduceIte, Nat.reduceEqDiff])
      | (refine AWP.ret ?_; try dsimp only [thn, inBlk])
      | (refine AWP.condT ?_ ?_; (focus (simp [go_sem]; done)))
      | (refine AWP.condF ?_ ?_; (focus (simp [go_sem]; done)))
      | (apply AWP.rE; (focus (simp [go_sem]; exact ⟨rfl, rfl⟩)); try dsimp only [thn, inBlk])
      | fail)
    simp [bodyQ, thn, inBlk, resA, resV, go_sem]
    exact ⟨_, _, ⟨rfl, rfl⟩, k.nil 5 1⟩
  · obtain ⟨a2, c2, h2, e1, k2⟩ := k.copy (P := Tryd.prog) (t := 22) (xt := 22) (i := h.next) Tryd.underlying22 tsz5 tby5 tz5 nI22 hx hm rfl
    (repeat' first
      | refine AWP.seq ?_
      | refine AWP.block ?_
      | (refine AWP.skip ?_; try dsimp only [thn, inBlk])
      | (refine AWP.exit ?_; try simp only [thn, inBlk, if_true, reduceIte, Nat.reduceEqDiff])
      | (refine AWP.ret ?_; try dsimp only [thn, inBlk])
      | (refine AWP.condT ?_ ?_; (focus (simp [go_sem, e1]; done)))
      | (refine AWP.condF ?_ ?_; (focus (simp [go_sem, e1]; done)))
      | (apply AWP.rE; (focus (simp [go_sem, e1]; exact ⟨rfl, rfl⟩)); try dsimp only [thn, inBlk])
      | fail)
    simp [bodyQ, thn, inBlk, resA, resV, go_sem]
    exact ⟨_, _, ⟨rfl, rfl⟩, k2⟩

def top : List UInt8 × Nd := ([47], ⟨true, rootB, 61, []⟩)
theorem new_calls {O : Old} {h : AHeap} {R : List Chunk} (k : Own O h R) : ACalls Tryd.prog 10 #[] h fun r h' => ∃ i, r = ptr i ∧ Own O h' (tr i [top] :: R) := by
  refine ACalls.of_awp (args := []) (n := 7) Tryd.func10 rfl rfl (by show 0 ≤ 7; omega) ?_
  have k1 := k.map_new (ke := tx) (ve := ptr)
  have k2 := k1.push (nrow top (h.next + 1, none, 0))
  obtain ⟨h3, e3, n3, k3⟩ := k2.b1.map_put txEnc Tryd.underlying60 (x := [47]) (v := h.next + 1) (by simp) (by simp) (by simp) (by simp)
  have k4 := k3.push (trow h.next)
  have e3 : mapUpdW Tryd.prog ((h.push (.other (.map #[] 0))).push (.row [.string ⟨#[47]⟩, .bool true, .string ⟨#[114, 111, 111, 116]⟩, .int .i64 61, .slice none 0 0] 43 5 true false)) 60 (.map (some h.next)) (.string ⟨#[47]⟩) (.pointer (some ⟨h.next + 1, 0, none⟩)) = some h3 := e3
  (repeat' first
    | refine AWP.seq ?_
    | refine AWP.block ?_
    | (refine AWP.skip ?_; try dsimp only [thn, inBlk])
    | (refine AWP.exit ?_; try simp only [thn, inBlk, if_true, reduceIte, Nat.reduceEqDiff])
    | (refine AWP.ret ?_; try dsimp only [thn, inBlk])
    | (refine AWP.condT ?_ ?_; (focus (simp [go_sem, e3]; done)))
    | (refine AWP.condF ?_ ?_; (focus (simp [go_sem, e3]; done)))
    | (apply AWP.rE; (focus (simp [go_sem, e3]; exact ⟨rfl, rfl⟩)); try dsimp only [thn, inBlk])
    | fail)
  simp [bodyQ, thn, inBlk, resA, resV, go_sem]
  refine tr_iff.2 ⟨h.next, [(h.next + 1, none, 0)], rfl, ?_⟩
  have k5 : Own O _ (nsub top (h.next + 1, none, 0) :: cell h3.next (trow h.next) :: mpc tx ptr h.next [([47], h.next + 1)] :: R) := Own.star_iff.2 ((k4.b2.nil 5 1).b1)
  exact k5.p2

theorem _root_.Ab.Own.mid {O : Old} {h : AHeap} {A R : List Chunk} {X : Chunk} (k : Own O h (A ++ (X :: R))) : Own O h (A ++ R) := (k.perm List.perm_middle).tail
section
variable {O : Old} {h : AHeap} {R : List Chunk} {i m : Nat} {T : TL} {ws : List Wd}
theorem tobj (hw : ws.length = T.length) (k : Own O h (tro i m T ws ++ R)) : ∃ es clock, h.obj m = some (.other (.map es clock)) ∧ es.size = T.length := by
  have k1 : Own O h (mch m T ws :: cell i (trow m) :: (nsubs T ws ++ R)) := (show Own O h (cell i (trow m) :: mch m T ws :: (nsubs T ws ++ R)) from k).b1
  obtain ⟨es, c, q1, q2⟩ := k1.map_obj
  exact ⟨es, c, q1, by rw [q2, ptrs_len hw]⟩

def putE (T : TL) (p : List UInt8) (n : Nd) : Int := match get T (par p) with
  | some nd => if may n.own nd 2 = false then 114 else if 64 ≤ T.length then 2 else 0
  | none => 114
def putT (T : TL) (p : List UInt8) (n : Nd) : TL := if putE T p n = 0 then T ++ [(p, n)] else T

set_option maxHeartbeats 8000000 in
theorem put_calls {p : List UInt8} {n nd : Nd} {a : Option Addr} {cap : Nat} (hI : TI T) (hw : ws.length = T.length) (k : Own O h (tro i m T ws ++ (ob 5 (.slice a n.data.length cap) n.data :: R))) (hp : p.length ≤ 900000) (hno : get T p = none) (hpar : get T (par p) = some nd) (hT : T.length ≤ 1000) :
    ACalls Tryd.prog 31 #[ptr i, .agg #[tx p, .bool n.dir, tx n.own, .int .i64 n.mode, .slice a n.data.length cap]] h fun r h' => r = .int .i64 (putE T p n) ∧ Own O h' (tr i (putT T p n) :: R) := by
  refine ACalls.of_awp (args := [ptr i, .agg #[tx p, .bool n.dir, tx n.own, .int .i64 n.mode, .slice a n.data.length cap]]) (n := 31) Tryd.func31 rfl rfl (by show 2 ≤ 31; omega) ?_
  have k1 : Own O (h.push (nrow (p, n) (h.next, a, cap))) (cell h.next (nrow (p, n) (h.next, a, cap)) :: (tro i m T ws ++ (ob 5 (.slice a n.data.length cap) n.data :: R))) := k.push _
  have c1 := k1.obj
  refine AWP.seq ?_
  (apply AWP.rE; (focus (simp [go_sem]; exact ⟨rfl, rfl⟩)); try dsimp only [thn, inBlk])
  generalize hH : h.push (nrow (p, n) (h.next, a, cap)) = h1 at k1 c1 ⊢
  generalize h.next = n3 at k1 c1 ⊢
  have ki := k1.tail
  have ci : h1.obj i = some (trow m) := ki.obj
  obtain ⟨j, w, t1, t2, t3⟩ := pv_some hw hpar
  have hlk := tlook hI hw ki (p := par p) (by
    unfold par; split
    · simp; omega
    · simp)
  rw [t3] at hlk
  have ho : h1.obj w.1 = some (nrow (par p, nd) w) := (node_open ki t1 t2).obj
  have hmd := hI.md _ (List.mem_of_getElem? t1)
  (repeat' first
    | refine AWP.seq ?_
    | refine AWP.block ?_
    | (refine AWP.skip ?_; try dsimp only [thn, inBlk])
    | (refine AWP.exit ?_; try simp only [thn, inBlk, if_true, reduceIte, Nat.reduceEqDiff])
    | (refine AWP.ret ?_; try dsimp only [thn, inBlk])
    | (refine AWP.condT ?_ ?_; (focus (simp [go_sem]; done)))
    | (refine AWP.condF ?_ ?_; (focus (simp [go_sem]; done)))
    | (apply AWP.rE; (focus (simp [go_sem]; exact ⟨rfl, rfl⟩)); try dsimp only [thn, inBlk])
    | (apply AWP.dE hmix [.n 0 [0], .n 1 [25], .n 2 [26], .n 3 [27], .n 4 [3], .n 5 [29], .w 6 [28, 30, 3] []]; (focus kernel_rfl); (focus (simp [go_sem]; exact ⟨rfl, rfl⟩)); try dsimp only [thn, inBlk])
    | fail)
  refine AWP.draw hmix [.n 0 [3], .n 1 [6], .n 2 [0], .n 3 [8], .n 4 [9], .n 5 [10], .n 6 [3], .n 7 [12], .w 8 [13] [1, 5], .n 9 [11, 14], .w 10 [7, 15] [], .n 11 [16], .n 12 [17]] (by kernel_rfl) ?_
  refine awpD_callR 8 (by rfl) (by rfl) (by simp [go_sem, c1, ci]; exact ⟨rfl, rfl, rfl⟩) (by rfl) (by rfl) (by simp [go_sem]) (by simp [go_sem, c1, ci]; exact ⟨rfl, rfl⟩) (by kernel_rfl) ?_
  refine (parent_calls (l := p) (by omega)).mono ?_
  rintro r h2 ⟨rfl, rfl⟩
  refine ⟨by simp [still, go_sem, c1, ci], ?_⟩
  refine awpD_callR 1 (by rfl) (by rfl) (by simp [go_sem, c1, ci, hlk]; exact ⟨rfl, rfl, rfl⟩) (by rfl) (by rfl) (by simp [go_sem]) (by simp [go_sem, c1, ci, hlk]; exact ⟨rfl, rfl⟩) (by kernel_rfl) ?_
  refine (may_calls (who := n.own) (bit := 2) ho hmd (by omega)).mono ?_
  rintro r h3 ⟨rfl, rfl⟩
  refine ⟨by simp [still, go_sem, c1, ci, hlk], ?_⟩
  have kt : Own O h3 (tro i m T ws ++ R) := ki.mid
  cases hmy : may n.own nd 2
  · have e1 : putE T p n = 114 := by simp only [putE, hpar]; rw [if_pos hmy]
    have e2 : putT T p n = T := by simp [putT, e1]
    rw [e1, e2]
    refine awpD_restR (by rfl) (by simp [go_sem]; exact ⟨rfl, rfl, rfl⟩) ?_; try dsimp only [thn, inBlk]
    (repeat' first
      | refine AWP.seq ?_
      | refine AWP.block ?_
      | (refine AWP.skip ?_; try dsimp only [thn, inBlk])
      | (refine AWP.exit ?_; try simp only [thn, inBlk, if_true, reduceIte, Nat.reduceEqDiff])
      | (refine AWP.ret ?_; try dsimp only [thn, inBlk])
      | (refine AWP.condT ?_ ?_; (focus (simp [go_sem]; done)))
      | (refine AWP.condF ?_ ?_; (focus (simp [go_sem]; done)))
      | (apply AWP.rE; (focus (simp [go_sem]; exact ⟨rfl, rfl⟩)); try dsimp only [thn, inBlk])
      | (apply AWP.dE hmix [.n 0 [0], .n 1 [25], .n 2 [26], .n 3 [27], .n 4 [3], .n 5 [29], .w 6 [28, 30, 3] []]; (focus kernel_rfl); (focus (simp [go_sem]; exact ⟨rfl, rfl⟩)); try dsimp only [thn, inBlk])
      | fail)
    simp [bodyQ, thn, inBlk, resA, resV, go_sem]
    exact tr_iff.2 ⟨m, ws, hw, kt⟩
  obtain ⟨es, clk, om, oz⟩ := tobj hw ki
  by_cases h64 : 64 ≤ T.length
  · have h64' : (64 : Int) ≤ T.length := by omega
    have e1 : putE T p n = 2 := by simp only [putE, hpar]; rw [if_neg (by rw [hmy]; decide), if_pos h64]
    have e2 : putT T p n = T := by simp [putT, e1]
    rw [e1, e2]
    refine awpD_restR (by rfl) (by simp [go_sem]; exact ⟨rfl, rfl, rfl⟩) ?_; try dsimp only [thn, inBlk]
    (repeat' first
      | refine AWP.seq ?_
      | refine AWP.block ?_
      | (refine AWP.skip ?_; try dsimp only [thn, inBlk])
      | (refine AWP.exit ?_; try simp only [thn, inBlk, if_true, reduceIte, Nat.reduceEqDiff])
      | (refine AWP.ret ?_; try dsimp only [thn, inBlk])
      | (refine AWP.condT ?_ ?_; (focus (simp [go_sem, ci, om, oz, h64']; done)))
      | (refine AWP.condF ?_ ?_; (focus (simp [go_sem, ci, om, oz, h64']; done)))
      | (apply AWP.rE; (focus (simp [go_sem, ci, om, oz, h64']; exact ⟨rfl, rfl⟩)); try dsimp only [thn, inBlk])
      | (apply AWP.dE hmix [.n 0 [0], .n 1 [25], .n 2 [26], .n 3 [27], .n 4 [3], .n 5 [29], .w 6 [28, 30, 3] []]; (focus kernel_rfl); (focus (simp [go_sem, ci, om, oz, h64']; exact ⟨rfl, rfl⟩)); try dsimp only [thn, inBlk])
      | fail)
    simp [bodyQ, thn, inBlk, resA, resV, go_sem]
    exact tr_iff.2 ⟨m, ws, hw, kt⟩
  have h64' : ¬ (64 : Int) ≤ T.length := by omega
  have e1 : putE T p n = 0 := by simp only [putE, hpar]; rw [if_neg (by rw [hmy]; decide), if_neg h64]
  have e2 : putT T p n = T ++ [(p, n)] := by simp [putT, e1]
  rw [e1, e2]
  have km : Own O h3 (mch m T ws :: cell n3 (nrow (p, n) (n3, a, cap)) :: cell i (trow m) :: (nsubs T ws ++ (ob 5 (.slice a n.data.length cap) n.data :: R))) := Own.b2 k1
  obtain ⟨h9, e9, n9, k9⟩ := km.map_put txEnc Tryd.underlying60 (x := p) (v := n3) (by omega) (ptrs_good hI hw) (by rw [ptrs_keys hw]; exact hI.nd) (fun q hq e => by
    obtain ⟨x, hx, ex⟩ := ptrs_mem hw hq
    exact get_none hno x hx (ex.symm.trans e))
  refine awpD_restR (by rfl) (by simp [go_sem]; exact ⟨rfl, rfl, rfl⟩) ?_; try dsimp only [thn, inBlk]
  (repeat' first
    | refine AWP.seq ?_
    | refine AWP.block ?_
    | (refine AWP.skip ?_; try dsimp only [thn, inBlk])
    | (refine AWP.exit ?_; try simp only [thn, inBlk, if_true, reduceIte, Nat.reduceEqDiff])
    | (refine AWP.ret ?_; try dsimp only [thn, inBlk])
    | (refine AWP.condT ?_ ?_; (focus (simp [go_sem, ci, om, oz, h64']; done)))
    | (refine AWP.condF ?_ ?_; (focus (simp [go_sem, ci, om, oz, h64']; done)))
    | (apply AWP.rE; (focus (simp [go_sem, ci, om, oz, h64']; exact ⟨rfl, rfl⟩)); try dsimp only [thn, inBlk])
    | (apply AWP.dE hmix [.n 0 [0], .n 1 [25], .n 2 [26], .n 3 [27], .n 4 [3], .n 5 [29], .w 6 [28, 30, 3] []]; (focus kernel_rfl); (focus (simp [go_sem, ci, om, oz, h64']; exact ⟨rfl, rfl⟩)); try dsimp only [thn, inBlk])
    | fail)
  refine AWP.draw hmix [.n 0 [0], .n 1 [25], .n 2 [26], .n 3 [27], .n 4 [3], .n 5 [29], .w 6 [28, 30, 3] []] (by kernel_rfl) ?_
  refine awpD_writeR 6 (by rfl) (by rfl) (by simp [go_sem, ci, c1, e9]; exact ⟨rfl, rfl, rfl⟩) (by rfl) (by rfl) (by simp [go_sem]) (by simp [go_sem, ci, c1, e9]; exact ⟨rfl, rfl⟩) (by simp [still, go_sem, ci, c1, e9]) ?_
  refine awpD_restR (by rfl) (by simp [go_sem]; exact ⟨rfl, rfl, rfl⟩) ?_; try dsimp only [thn, inBlk]
  (repeat' first
    | refine AWP.seq ?_
    | refine AWP.block ?_
    | (refine AWP.skip ?_; try dsimp only [thn, inBlk])
    | (refine AWP.exit ?_; try simp only [thn, inBlk, if_true, reduceIte, Nat.reduceEqDiff])
    | (refine AWP.ret ?_; try dsimp only [thn, inBlk])
    | (refine AWP.condT ?_ ?_; (focus (simp [go_sem]; done)))
    | (refine AWP.condF ?_ ?_; (focus (simp [go_sem]; done)))
    | (apply AWP.rE; (focus (simp [go_sem]; exact ⟨rfl, rfl⟩)); try dsimp only [thn, inBlk])
    | (apply AWP.dE hmix [.n 0 [0], .n 1 [25], .n 2 [26], .n 3 [27], .n 4 [3], .n 5 [29], .w 6 [28, 30, 3] []]; (focus kernel_rfl); (focus (simp [go_sem]; exact ⟨rfl, rfl⟩)); try dsimp only [thn, inBlk])
    | fail)
  simp [bodyQ, thn, inBlk, resA, resV, go_sem]
  refine tr_iff.2 ⟨m, ws ++ [(n3, a, cap)], by simp [hw], ?_⟩
  have q1 : ptrs (T ++ [(p, n)]) (ws ++ [(n3, a, cap)]) = ptrs T ws ++ [(p, n3)] := by
    simp only [ptrs]; rw [List.zipWith_append hw.symm]; rfl
  have q2 : nsubs (T ++ [(p, n)]) (ws ++ [(n3, a, cap)]) = nsubs T ws ++ [nsub (p, n) (n3, a, cap)] := by
    simp only [nsubs]; rw [List.zipWith_append hw.symm]; rfl
  have kA : Own O h9 (ob 5 (.slice a n.data.length cap) n.data :: mpc tx ptr m (ptrs T ws ++ [(p, n3)]) :: cell n3 (nrow (p, n) (n3, a, cap)) :: cell i (trow m) :: (nsubs T ws ++ R)) :=
    k9.perm (List.perm_middle (l₁ := mpc tx ptr m (ptrs T ws ++ [(p, n3)]) :: cell n3 (nrow (p, n) (n3, a, cap)) :: cell i (trow m) :: nsubs T ws))
  have kB : Own O h9 (nsub (p, n) (n3, a, cap) :: mpc tx ptr m (ptrs T ws ++ [(p, n3)]) :: cell i (trow m) :: (nsubs T ws ++ R)) := Own.star_iff.2 kA.b2
  show Own O h9 (cell i (trow m) :: mpc tx ptr m _ :: (_ ++ R))
  rw [q1, q2, List.append_assoc]
  exact kB.b2.b2.b1.perm (List.Perm.cons _ (List.Perm.cons _ List.perm_middle.symm))
end
end L19
