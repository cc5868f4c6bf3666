import Derived.Test.YtaieafdiomknoaaDoorL22r
open Go Ab Go.Proofs
namespace L22
set_option autoImplicit false
set_option linter.unusedSimpArgs false
set_option linter.unusedVariables false

theorem authT_err {k o : Int} {bs : List UInt8} : (authT k o bs).2.2.2 = 0 ∨ (authT k o bs).2.2.2 = 21 := by
  unfold authT
  split
  · split
    all_goals first | exact .inl rfl | exact .inr rfl
  · exact .inr rfl
theorem authT_len {k o : Int} {bs : List UInt8} : (authT k o bs).2.2.1.length ≤ bs.length := by
  unfold authT
  split
  · split
    all_goals simp <;> omega
  · simp

theorem authT_send : authT 3 37 [1, 2, 2] = (1, false, [], 0) := rfl
theorem authT_is {body : List UInt8} : authT 3 37 ([0, 2, 2, 0] ++ body) = (0, false, body, 0) := rfl
theorem authT_reply {acc : Bool} {body : List UInt8} : authT 3 37 ([2, 2, 2, if acc then 2 else 1] ++ body) = (2, acc, body, 0) := by cases acc <;> rfl
set_option maxHeartbeats 8000000 in
theorem auths_calls {h : AHeap} {kd v o : Int} {a : Option Addr} {cap : Nat} {bs : List UInt8} {acc : Bool} {w : Value} {body : List UInt8} (hb : h.base = h.next) (hp : Bytes h (.slice a bs.length cap) bs) (hq : Bytes h w body) :
    ACalls Tryd.prog 7 #[tel kd v o (.slice a bs.length cap), .bool acc, w] h fun r _ => r = .bool true := by
  refine Own.of_wf fun k0 => ?_
  obtain ⟨wa, wc, rfl⟩ := hq.val
  refine ACalls.of_awp (args := [tel kd v o (.slice a bs.length cap), .bool acc, .slice wa body.length wc]) (n := 146) Tryd.func7 rfl rfl (by show 3 ≤ 146; omega) ?_
  have k1 := k0.push (trow kd v o (.slice a bs.length cap))
  (repeat' first
    | refine AWP.seq ?_
    | refine AWP.block ?_
    | (refine AWP.skip ?_; try dsimp only [thn, inBlk])
    | (refine AWP.exit ?_; try simp only [thn, inBlk, if_true, reduceIte, Nat.reduceEqDiff])
    | (refine AWP.ret ?_; try dsimp only [thn, inBlk])
    | (refine AWP.condT ?_ ?_; (focus (simp [go_sem]; done)))
    | (refine AWP.condF ?_ ?_; (focus (simp [go_sem]; done)))
    | (apply AWP.rE; (focus (simp [go_sem]; exact ⟨rfl, rfl⟩)); try dsimp only [thn, inBlk])
    | fail)
  refine AWP.callE (by simp [go_sem]; exact ⟨rfl, rfl, rfl, rfl, rfl⟩) (by kernel_rfl) ?_
  refine (speaks_calls k1).mono ?_
  rintro r h1 ⟨rfl, k2⟩
  have c2 := k2.obj
  generalize h.next = tp at k1 k2 c2 ⊢
  refine awpL_restE (by simp [go_sem]; exact ⟨rfl, rfl⟩) ?_; try dsimp only [thn, inBlk]
  by_cases hl : 4000 < bs.length
  · have hl' : (4000 : Int) < bs.length := by omega
    (repeat' first
      | refine AWP.seq ?_
      | refine AWP.block ?_
      | (refine AWP.skip ?_; try dsimp only [thn, inBlk])
      | (refine AWP.exit ?_; try simp only [thn, inBlk, if_true, reduceIte, Nat.reduceEqDiff])
      | (refine AWP.ret ?_; try dsimp only [thn, inBlk])
      | (refine AWP.condT ?_ ?_; (focus (simp [go_sem, c2, hl']; done)))
      | (refine AWP.condF ?_ ?_; (focus (simp [go_sem, c2, hl']; done)))
      | (apply AWP.rE; (focus (simp [go_sem, c2, hl']; exact ⟨rfl, rfl⟩)); try dsimp only [thn, inBlk])
      | fail)
    simp [bodyQ, thn, inBlk, resA, resV, go_sem]
  have hl' : ¬ (4000 : Int) < bs.length := by omega
  by_cases hl2 : 4000 < body.length
  · have hl2' : (4000 : Int) < body.length := by omega
    (repeat' first
      | refine AWP.seq ?_
      | refine AWP.block ?_
      | (refine AWP.skip ?_; try dsimp only [thn, inBlk])
      | (refine AWP.exit ?_; try simp only [thn, inBlk, if_true, reduceIte, Nat.reduceEqDiff])
      | (refine AWP.ret ?_; try dsimp only [thn, inBlk])
      | (refine AWP.condT ?_ ?_; (focus (simp [go_sem, c2, hl', hl2']; done)))
      | (refine AWP.condF ?_ ?_; (focus (simp [go_sem, c2, hl', hl2']; done)))
      | (apply AWP.rE; (focus (simp [go_sem, c2, hl', hl2']; exact ⟨rfl, rfl⟩)); try dsimp only [thn, inBlk])
      | fail)
    simp [bodyQ, thn, inBlk, resA, resV, go_sem]
  have hl2' : ¬ (4000 : Int) < body.length := by omega
  (repeat' first
    | refine AWP.seq ?_
    | refine AWP.block ?_
    | (refine AWP.skip ?_; try dsimp only [thn, inBlk])
    | (refine AWP.exit ?_; try simp only [thn, inBlk, if_true, reduceIte, Nat.reduceEqDiff])
    | (refine AWP.ret ?_; try dsimp only [thn, inBlk])
    | (refine AWP.condT ?_ ?_; (focus (simp [go_sem, c2, hl', hl2']; done)))
    | (refine AWP.condF ?_ ?_; (focus (simp [go_sem, c2, hl', hl2']; done)))
    | (apply AWP.rE; (focus (simp [go_sem, c2, hl', hl2']; exact ⟨rfl, rfl⟩)); try dsimp only [thn, inBlk])
    | fail)
  refine AWP.callE (by simp [go_sem, c2]; exact ⟨rfl, rfl, rfl, rfl, rfl⟩) (by kernel_rfl) ?_
  refine (tauth_calls k2 (fun hh kk => hp.of_old hb kk) (by omega)).mono ?_
  rintro r h3 ⟨a3, n3, rfl, k3⟩
  have c3 := k3.b1.obj
  refine awpL_restE (by simp [go_sem]; exact ⟨rfl, rfl⟩) ?_; try dsimp only [thn, inBlk]
  (repeat' first
    | refine AWP.seq ?_
    | refine AWP.block ?_
    | (refine AWP.skip ?_; try dsimp only [thn, inBlk])
    | (refine AWP.exit ?_; try simp only [thn, inBlk, if_true, reduceIte, Nat.reduceEqDiff])
    | (refine AWP.ret ?_; try dsimp only [thn, inBlk])
    | (refine AWP.condT ?_ ?_; (focus (simp [go_sem]; done)))
    | (refine AWP.condF ?_ ?_; (focus (simp [go_sem]; done)))
    | (apply AWP.rE; (focus (simp [go_sem]; exact ⟨rfl, rfl⟩)); try dsimp only [thn, inBlk])
    | fail)
  refine AWP.callE (by simp [go_sem, c3]; exact ⟨rfl, rfl, rfl, rfl, rfl⟩) (by kernel_rfl) ?_
  refine (refauth_calls (kd := kd) (v := v) (o := o) k3 (fun hh kk => hp.of_old hb kk) (by omega)).mono ?_
  rintro r h4 ⟨a4, n4, rfl, k4⟩
  obtain ⟨K, Y, Bd, E, hA⟩ : ∃ K Y Bd E, authT kd o bs = (K, Y, Bd, E) := ⟨_, _, _, _, rfl⟩
  have hE := authT_err (k := kd) (o := o) (bs := bs)
  rw [hA] at k3 k4 hE ⊢
  have s1 := k4.b1.ob_bytes.str (P := Tryd.prog) (t := 22) (e := 5) (u := 9) Tryd.underlying22 Tryd.underlying5 Tryd.underlying9
  have s2 := k4.ob_bytes.str (P := Tryd.prog) (t := 22) (e := 5) (u := 9) Tryd.underlying22 Tryd.underlying5 Tryd.underlying9
  refine awpL_restE (by simp [go_sem]; exact ⟨rfl, rfl⟩) ?_; try dsimp only [thn, inBlk]
  rcases hE with rfl | rfl
  · (repeat' first
      | refine AWP.seq ?_
      | refine AWP.block ?_
      | (refine AWP.skip ?_; try dsimp only [thn, inBlk])
      | (refine AWP.exit ?_; try simp only [thn, inBlk, if_true, reduceIte, Nat.reduceEqDiff])
      | (refine AWP.ret ?_; try dsimp only [thn, inBlk])
      | (refine AWP.condT ?_ ?_; (focus (simp [go_sem, s1, s2]; done)))
      | (refine AWP.condF ?_ ?_; (focus (simp [go_sem, s1, s2]; done)))
      | (apply AWP.rE; (focus (simp [go_sem, s1, s2]; exact ⟨rfl, rfl⟩)); try dsimp only [thn, inBlk])
      | fail)
    refine AWP.callE (by simp [go_sem]; exact ⟨rfl, rfl, rfl, rfl, rfl⟩) (by kernel_rfl) ?_
    refine (send_calls k4).mono ?_
    rintro r h5 ⟨a5, n5, rfl, k5⟩
    refine awpL_toCall (by simp [go_sem]; exact ⟨rfl, rfl, rfl, rfl, rfl⟩) (by kernel_rfl) ?_
    refine (tauth_calls (kd := 3) (v := 0) (o := 37) (d := .slice a5 3 n5) k5 (fun hh kk => kk.ob_bytes) (by simp)).mono ?_
    rintro r h6 ⟨a6, n6, rfl, k6⟩
    rw [authT_send]
    refine awpL_restE (by simp [go_sem]; exact ⟨rfl, rfl⟩) ?_; try dsimp only [thn, inBlk]
    (repeat' first
      | refine AWP.seq ?_
      | refine AWP.block ?_
      | (refine AWP.skip ?_; try dsimp only [thn, inBlk])
      | (refine AWP.exit ?_; try simp only [thn, inBlk, if_true, reduceIte, Nat.reduceEqDiff])
      | (refine AWP.ret ?_; try dsimp only [thn, inBlk])
      | (refine AWP.condT ?_ ?_; (focus (simp [go_sem]; done)))
      | (refine AWP.condF ?_ ?_; (focus (simp [go_sem]; done)))
      | (apply AWP.rE; (focus (simp [go_sem]; exact ⟨rfl, rfl⟩)); try dsimp only [thn, inBlk])
      | fail)
    refine AWP.callE (by simp [go_sem]; exact ⟨rfl, rfl, rfl, rfl, rfl⟩) (by kernel_rfl) ?_
    refine (is_calls k6 (fun hh kk => hq.of_old hb kk) (by omega)).mono ?_
    rintro r h7 ⟨a7, n7, rfl, k7⟩
    have el : ([0, 2, 2, 0] ++ body).length = 4 + body.length := by simp; omega
    refine awpL_toCall (by simp [go_sem]; exact ⟨rfl, rfl, rfl, rfl, rfl⟩) (by kernel_rfl) ?_
    refine (tauth_calls (kd := 3) (v := 0) (o := 37) (bs := [0, 2, 2, 0] ++ body) (d := .slice a7 (4 + body.length) n7) k7 (fun hh kk => el ▸ kk.ob_bytes) (by rw [el]; omega)).mono ?_
    rintro r h8 ⟨a8, n8, rfl, k8⟩
    rw [authT_is] at k8 ⊢
    refine awpL_restE (by simp [go_sem]; exact ⟨rfl, rfl⟩) ?_; try dsimp only [thn, inBlk]
    (repeat' first
      | refine AWP.seq ?_
      | refine AWP.block ?_
      | (refine AWP.skip ?_; try dsimp only [thn, inBlk])
      | (refine AWP.exit ?_; try simp only [thn, inBlk, if_true, reduceIte, Nat.reduceEqDiff])
      | (refine AWP.ret ?_; try dsimp only [thn, inBlk])
      | (refine AWP.condT ?_ ?_; (focus (simp [go_sem]; done)))
      | (refine AWP.condF ?_ ?_; (focus (simp [go_sem]; done)))
      | (apply AWP.rE; (focus (simp [go_sem]; exact ⟨rfl, rfl⟩)); try dsimp only [thn, inBlk])
      | fail)
    refine AWP.callE (by simp [go_sem]; exact ⟨rfl, rfl, rfl, rfl, rfl⟩) (by kernel_rfl) ?_
    refine (reply_calls k8 (fun hh kk => hq.of_old hb kk) (by omega)).mono ?_
    rintro r h9 ⟨a9, n9, rfl, k9⟩
    have el2 : ([2, 2, 2, if acc then 2 else 1] ++ body).length = 4 + body.length := by simp; omega
    refine awpL_toCall (by simp [go_sem]; exact ⟨rfl, rfl, rfl, rfl, rfl⟩) (by kernel_rfl) ?_
    refine (tauth_calls (kd := 3) (v := 0) (o := 37) (bs := [2, 2, 2, if acc then 2 else 1] ++ body) (d := .slice a9 (4 + body.length) n9) k9 (fun hh kk => el2 ▸ kk.ob_bytes) (by rw [el2]; omega)).mono ?_
    rintro r h10 ⟨a10, n10, rfl, k10⟩
    rw [authT_reply] at k10 ⊢
    have t1 := k10.ob_bytes.str (P := Tryd.prog) (t := 22) (e := 5) (u := 9) Tryd.underlying22 Tryd.underlying5 Tryd.underlying9
    have t2 := k10.b2.ob_bytes.str (P := Tryd.prog) (t := 22) (e := 5) (u := 9) Tryd.underlying22 Tryd.underlying5 Tryd.underlying9
    have t3 := (hq.of_old hb k10).str (P := Tryd.prog) (t := 22) (e := 5) (u := 9) Tryd.underlying22 Tryd.underlying5 Tryd.underlying9
    refine awpL_restE (by simp [go_sem]; exact ⟨rfl, rfl⟩) ?_; try dsimp only [thn, inBlk]
    (repeat' first
      | refine AWP.seq ?_
      | refine AWP.block ?_
      | (refine AWP.skip ?_; try dsimp only [thn, inBlk])
      | (refine AWP.exit ?_; try simp only [thn, inBlk, if_true, reduceIte, Nat.reduceEqDiff])
      | (refine AWP.ret ?_; try dsimp only [thn, inBlk])
      | (refine AWP.condT ?_ ?_; (focus (simp [go_sem, t1, t2, t3]; done)))
      | (refine AWP.condF ?_ ?_; (focus (simp [go_sem, t1, t2, t3]; done)))
      | (apply AWP.rE; (focus (simp [go_sem, t1, t2, t3]; exact ⟨rfl, rfl⟩)); try dsimp only [thn, inBlk])
      | fail)
    simp [bodyQ, thn, inBlk, resA, resV, go_sem]
  · (repeat' first
      | refine AWP.seq ?_
      | refine AWP.block ?_
      | (refine AWP.skip ?_; try dsimp only [thn, inBlk])
      | (refine AWP.exit ?_; try simp only [thn, inBlk, if_true, reduceIte, Nat.reduceEqDiff])
      | (refine AWP.ret ?_; try dsimp only [thn, inBlk])
      | (refine AWP.condT ?_ ?_; (focus (simp [go_sem, s1, s2]; done)))
      | (refine AWP.condF ?_ ?_; (focus (simp [go_sem, s1, s2]; done)))
      | (apply AWP.rE; (focus (simp [go_sem, s1, s2]; exact ⟨rfl, rfl⟩)); try dsimp only [thn, inBlk])
      | fail)
    refine AWP.callE (by simp [go_sem]; exact ⟨rfl, rfl, rfl, rfl, rfl⟩) (by kernel_rfl) ?_
    refine (send_calls k4).mono ?_
    rintro r h5 ⟨a5, n5, rfl, k5⟩
    refine awpL_toCall (by simp [go_sem]; exact ⟨rfl, rfl, rfl, rfl, rfl⟩) (by kernel_rfl) ?_
    refine (tauth_calls (kd := 3) (v := 0) (o := 37) (d := .slice a5 3 n5) k5 (fun hh kk => kk.ob_bytes) (by simp)).mono ?_
    rintro r h6 ⟨a6, n6, rfl, k6⟩
    rw [authT_send]
    refine awpL_restE (by simp [go_sem]; exact ⟨rfl, rfl⟩) ?_; try dsimp only [thn, inBlk]
    (repeat' first
      | refine AWP.seq ?_
      | refine AWP.block ?_
      | (refine AWP.skip ?_; try dsimp only [thn, inBlk])
      | (refine AWP.exit ?_; try simp only [thn, inBlk, if_true, reduceIte, Nat.reduceEqDiff])
      | (refine AWP.ret ?_; try dsimp only [thn, inBlk])
      | (refine AWP.condT ?_ ?_; (focus (simp [go_sem]; done)))
      | (refine AWP.condF ?_ ?_; (focus (simp [go_sem]; done)))
      | (apply AWP.rE; (focus (simp [go_sem]; exact ⟨rfl, rfl⟩)); try dsimp only [thn, inBlk])
      | fail)
    refine AWP.callE (by simp [go_sem]; exact ⟨rfl, rfl, rfl, rfl, rfl⟩) (by kernel_rfl) ?_
    refine (is_calls k6 (fun hh kk => hq.of_old hb kk) (by omega)).mono ?_
    rintro r h7 ⟨a7, n7, rfl, k7⟩
    have el : ([0, 2, 2, 0] ++ body).length = 4 + body.length := by simp; omega
    refine awpL_toCall (by simp [go_sem]; exact ⟨rfl, rfl, rfl, rfl, rfl⟩) (by kernel_rfl) ?_
    refine (tauth_calls (kd := 3) (v := 0) (o := 37) (bs := [0, 2, 2, 0] ++ body) (d := .slice a7 (4 + body.length) n7) k7 (fun hh kk => el ▸ kk.ob_bytes) (by rw [el]; omega)).mono ?_
    rintro r h8 ⟨a8, n8, rfl, k8⟩
    rw [authT_is] at k8 ⊢
    refine awpL_restE (by simp [go_sem]; exact ⟨rfl, rfl⟩) ?_; try dsimp only [thn, inBlk]
    (repeat' first
      | refine AWP.seq ?_
      | refine AWP.block ?_
      | (refine AWP.skip ?_; try dsimp only [thn, inBlk])
      | (refine AWP.exit ?_; try simp only [thn, inBlk, if_true, reduceIte, Nat.reduceEqDiff])
      | (refine AWP.ret ?_; try dsimp only [thn, inBlk])
      | (refine AWP.condT ?_ ?_; (focus (simp [go_sem]; done)))
      | (refine AWP.condF ?_ ?_; (focus (simp [go_sem]; done)))
      | (apply AWP.rE; (focus (simp [go_sem]; exact ⟨rfl, rfl⟩)); try dsimp only [thn, inBlk])
      | fail)
    refine AWP.callE (by simp [go_sem]; exact ⟨rfl, rfl, rfl, rfl, rfl⟩) (by kernel_rfl) ?_
    refine (reply_calls k8 (fun hh kk => hq.of_old hb kk) (by omega)).mono ?_
    rintro r h9 ⟨a9, n9, rfl, k9⟩
    have el2 : ([2, 2, 2, if acc then 2 else 1] ++ body).length = 4 + body.length := by simp; omega
    refine awpL_toCall (by simp [go_sem]; exact ⟨rfl, rfl, rfl, rfl, rfl⟩) (by kernel_rfl) ?_
    refine (tauth_calls (kd := 3) (v := 0) (o := 37) (bs := [2, 2, 2, if acc then 2 else 1] ++ body) (d := .slice a9 (4 + body.length) n9) k9 (fun hh kk => el2 ▸ kk.ob_bytes) (by rw [el2]; omega)).mono ?_
    rintro r h10 ⟨a10, n10, rfl, k10⟩
    rw [authT_reply] at k10 ⊢
    have t1 := k10.ob_bytes.str (P := Tryd.prog) (t := 22) (e := 5) (u := 9) Tryd.underlying22 Tryd.underlying5 Tryd.underlying9
    have t2 := k10.b2.ob_bytes.str (P := Tryd.prog) (t := 22) (e := 5) (u := 9) Tryd.underlying22 Tryd.underlying5 Tryd.underlying9
    have t3 := (hq.of_old hb k10).str (P := Tryd.prog) (t := 22) (e := 5) (u := 9) Tryd.underlying22 Tryd.underlying5 Tryd.underlying9
    refine awpL_restE (by simp [go_sem]; exact ⟨rfl, rfl⟩) ?_; try dsimp only [thn, inBlk]
    (repeat' first
      | refine AWP.seq ?_
      | refine AWP.block ?_
      | (refine AWP.skip ?_; try dsimp only [thn, inBlk])
      | (refine AWP.exit ?_; try simp only [thn, inBlk, if_true, reduceIte, Nat.reduceEqDiff])
      | (refine AWP.ret ?_; try dsimp only [thn, inBlk])
      | (refine AWP.condT ?_ ?_; (focus (simp [go_sem, t1, t2, t3]; done)))
      | (refine AWP.condF ?_ ?_; (focus (simp [go_sem, t1, t2, t3]; done)))
      | (apply AWP.rE; (focus (simp [go_sem, t1, t2, t3]; exact ⟨rfl, rfl⟩)); try dsimp only [thn, inBlk])
      | fail)
    simp [bodyQ, thn, inBlk, resA, resV, go_sem]
end L22
