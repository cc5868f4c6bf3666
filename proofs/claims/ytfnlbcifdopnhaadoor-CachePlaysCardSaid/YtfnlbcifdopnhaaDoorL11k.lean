import Derived.Test.YtfnlbcifdopnhaaDoorL11j
open Go Ab Go.Proofs
namespace L11
set_option autoImplicit false
set_option linter.unusedSimpArgs false
set_option linter.unusedVariables false

/-! ### Put -/
def keepL (L : CL) (now : Int) : CL := L.filter fun a => !decide (a.2.g.en < now)
def setC (L : CL) (c : Cr) : CL := match L.findIdx? (fun x => x.1 == c.g.sv) with
  | some j => L.set j (c.g.sv, c)
  | none => L ++ [(c.g.sv, c)]
def goodC (c : Cr) : Bool := nameB c.cl && grantB c.g
def putR (L : CL) (c : Cr) (now : Int) : Int × CL := if goodC c = false then (1, L) else if c.g.en < now then (63, L) else
  if get (keepL L now) c.g.sv = none ∧ 8 ≤ (keepL L now).length then (2, keepL L now) else (0, setC (keepL L now) c)
theorem CI.sub {L K : CL} (h : CI L) (s : K.Sublist L) : CI K :=
  ⟨(s.map _).nodup h.nd, fun p hp => h.kl p (s.subset hp), fun p hp => h.kn p (s.subset hp), fun p hp => h.tl p (s.subset hp), Nat.le_trans s.length_le h.mx⟩
theorem CI.keep {L : CL} (h : CI L) (now : Int) : CI (keepL L now) := h.sub List.filter_sublist
section
variable {O : Old} {h : AHeap} {R : List Chunk} {i m : Nat} {L : CL} {V : List KV}
theorem Own.outR {A L : List Chunk} {X : Chunk} (k : Own O h (A ++ (L ++ (X :: R)))) : Own O h (X :: (A ++ (L ++ R))) := by
  refine k.perm ?_
  rw [← List.append_assoc A L, ← List.append_assoc A L]
  exact List.perm_middle
theorem er_keep {now : Int} (hV : er V = L) : er (V.filter fun a => !decide (a.2.1.g.en < now)) = keepL L now := by
  rw [← hV, er, er, keepL, List.filter_map]; rfl
/-- What is put into the map. -/
theorem csc_set {c : Cr} {p : Pl} (hI : CI L) (hc : c.g.sv.length ≤ 1000000) (hV : er V = L) (k : Own O h (tkb c p :: cell i (brow m) :: mpc tx crV m V :: (V.map sub ++ R))) :
    ∃ h', mapUpdW Tryd.prog h 53 (.map (some m)) (tx c.g.sv) (crV (c, p)) = some h' ∧ h'.next = h.next ∧ Own O h' (csc i (setC L c) :: R) := by
  cases hg : get L c.g.sv with
  | none =>
    have hf : L.findIdx? (fun x => x.1 == c.g.sv) = none := by
      rw [List.findIdx?_eq_none_iff]
      intro x hx; simpa using get_none hg x hx
    have e : setC L c = L ++ [(c.g.sv, c)] := by simp only [setC, hf]
    rw [e]
    obtain ⟨h', e1, e2, k2⟩ := k.b2.map_put txEnc (P := Tryd.prog) (t := 53) Tryd.underlying53 (x := c.g.sv) (v := (c, p)) hc (er_kl hV hI) (er_nd hV hI) (er_none hV hg)
    refine ⟨h', e1, e2, csc_iff.2 ⟨m, V ++ [(c.g.sv, c, p)], by simp [er] at hV ⊢; exact hV, ?_⟩⟩
    have k3 := Own.b1 (Own.addIn (A := [_, _]) k2.b1)
    rw [List.map_append]
    exact k3
  | some c0 =>
    obtain ⟨j, hj, hf⟩ := get_some hg
    obtain ⟨p0, hp0⟩ := er_at hV hj
    have e : setC L c = L.set j (c.g.sv, c) := by simp only [setC, hf]
    rw [e]
    obtain ⟨h', e1, e2, k2⟩ := k.b2.map_set txEnc (P := Tryd.prog) (t := 53) Tryd.underlying53 (x := c.g.sv) (v := (c, p)) hc (er_kl hV hI) (er_nd hV hI) hp0
    refine ⟨h', e1, e2, csc_iff.2 ⟨m, V.set j (c.g.sv, c, p), by rw [← hV, er, er, List.map_set], ?_⟩⟩
    rw [List.map_set]
    exact Own.b1 (Own.setIn (A := [_, _]) (X := tkb c p) (Y := tkb c0 p0) (j := j) (by rw [List.getElem?_map, hp0]; rfl) k2.b1)
set_option maxHeartbeats 16000000 in
theorem put_calls {c : Cr} {p : Pl} {now : Int} (hI : CI L) (k : Own O h (csc i L :: R)) (hx : ∀ h, Own O h R → Bytes h (tkV c p) c.tk) (h1 : c.cl.length ≤ 900000) (h2 : c.g.sv.length ≤ 60000) (h3 : c.tk.length ≤ 1000000) (h4 : c.g.no < 18446744073709551616) :
    ACalls Tryd.prog 9 #[ptr i, crV (c, p), .int .i64 now] h fun r h' => r = .int .i64 (putR L c now).1 ∧ Own O h' (csc i (putR L c now).2 :: R) := by
  refine ACalls.of_awp (args := [ptr i, crV (c, p), .int .i64 now]) (n := 74) Tryd.func9 rfl rfl (by show 3 ≤ 74; omega) ?_
  have k1 : Own O _ (cell (h.next + 1) (.row [.int .i64 now] 2 1 true false) :: cell h.next (.row (cr c p) 34 23 true false) :: csc i L :: R) := (k.push (.row (cr c p) 34 23 true false)).push (.row [.int .i64 now] 2 1 true false)
  have c1 := k1.b1.obj
  (repeat' first
    | refine AWP.seq ?_
    | refine AWP.block ?_
    | (refine AWP.skip ?_; try dsimp only [thn, inBlk])
    | (refine AWP.exit ?_; try simp only [thn, inBlk, if_true, reduceIte, Nat.reduceEqDiff])
    | (refine AWP.ret ?_; try dsimp only [thn, inBlk])
    | (refine AWP.condT ?_ ?_; (focus (simp [go_sem]; done)))
    | (refine AWP.condF ?_ ?_; (focus (simp [go_sem]; done)))
    | (apply AWP.rE; (focus (simp [go_sem]; exact ⟨rfl, rfl⟩)); try dsimp only [thn, inBlk])
    | (apply AWP.dE hmix [.n 0 [0], .n 1 [45], .n 2 [46], .n 3 [47], .n 4 [4], .n 5 [49], .n 6 [50], .n 7 [48, 51], .n 8 [52], .n 9 [44], .n 10 [44], .n 11 [], .w 12 [11, 53] [], .n 13 [54]]; (focus kernel_rfl); (focus (simp [go_sem]; exact ⟨rfl, rfl⟩)); try dsimp only [thn, inBlk])
    | fail)
  refine AWP.callE (by simp [go_sem, c1]; exact ⟨rfl, rfl, rfl, rfl, rfl⟩) (by kernel_rfl) ?_
  refine (parse_calls (l := c.cl) k1 h1).mono ?_
  rintro r hA ⟨⟨a, n, cap, q, rfl⟩, k2⟩
  have k3 := k2.push (.row [.slice a n cap, tx q] 57 2 true false)
  have c3 := k3.b2.obj
  refine awpL_restE (by simp [go_sem]; exact ⟨rfl, rfl⟩) ?_; try dsimp only [thn, inBlk]
  (repeat' first
    | refine AWP.seq ?_
    | refine AWP.block ?_
    | (refine AWP.skip ?_; try dsimp only [thn, inBlk])
    | (refine AWP.exit ?_; try simp only [thn, inBlk, if_true, reduceIte, Nat.reduceEqDiff])
    | (refine AWP.ret ?_; try dsimp only [thn, inBlk])
    | (refine AWP.condT ?_ ?_; (focus (simp [go_sem]; done)))
    | (refine AWP.condF ?_ ?_; (focus (simp [go_sem]; done)))
    | (apply AWP.rE; (focus (simp [go_sem]; exact ⟨rfl, rfl⟩)); try dsimp only [thn, inBlk])
    | (apply AWP.dE hmix [.n 0 [0], .n 1 [45], .n 2 [46], .n 3 [47], .n 4 [4], .n 5 [49], .n 6 [50], .n 7 [48, 51], .n 8 [52], .n 9 [44], .n 10 [44], .n 11 [], .w 12 [11, 53] [], .n 13 [54]]; (focus kernel_rfl); (focus (simp [go_sem]; exact ⟨rfl, rfl⟩)); try dsimp only [thn, inBlk])
    | fail)
  refine AWP.callE (by simp [go_sem, c3]; exact ⟨rfl, rfl, rfl, rfl, rfl⟩) (by kernel_rfl) ?_
  refine (wgrant_calls (g := c.g) k3 h2 h4).mono ?_
  rintro r h5 ⟨x, rfl, k4⟩
  have back : ∀ {hh : AHeap} {A B C : Chunk}, Own O hh (A :: B :: C :: csc i L :: R) → Own O hh (csc i L :: R) := fun kk => kk.tail.tail.tail
  cases hgb : goodC c
  · have e : putR L c now = (1, L) := by simp [putR, hgb]
    rw [e]
    cases hnb : nameB c.cl
    · refine awpL_restE (by simp [go_sem]; exact ⟨rfl, rfl⟩) ?_; try dsimp only [thn, inBlk]
      (repeat' first
        | refine AWP.seq ?_
        | refine AWP.block ?_
        | (refine AWP.skip ?_; try dsimp only [thn, inBlk])
        | (refine AWP.exit ?_; try simp only [thn, inBlk, if_true, reduceIte, Nat.reduceEqDiff])
        | (refine AWP.ret ?_; try dsimp only [thn, inBlk])
        | (refine AWP.condT ?_ ?_; (focus (simp [go_sem]; done)))
        | (refine AWP.condF ?_ ?_; (focus (simp [go_sem]; done)))
        | (apply AWP.rE; (focus (simp [go_sem]; exact ⟨rfl, rfl⟩)); try dsimp only [thn, inBlk])
        | (apply AWP.dE hmix [.n 0 [0], .n 1 [45], .n 2 [46], .n 3 [47], .n 4 [4], .n 5 [49], .n 6 [50], .n 7 [48, 51], .n 8 [52], .n 9 [44], .n 10 [44], .n 11 [], .w 12 [11, 53] [], .n 13 [54]]; (focus kernel_rfl); (focus (simp [go_sem]; exact ⟨rfl, rfl⟩)); try dsimp only [thn, inBlk])
        | fail)
      simp [bodyQ, thn, inBlk, resA, resV, go_sem]
      exact back k4
    · have hgr : grantB c.g = false := by simpa [goodC, hnb] using hgb
      rw [hgr]
      refine awpL_restE (by simp [go_sem]; exact ⟨rfl, rfl⟩) ?_; try dsimp only [thn, inBlk]
      (repeat' first
        | refine AWP.seq ?_
        | refine AWP.block ?_
        | (refine AWP.skip ?_; try dsimp only [thn, inBlk])
        | (refine AWP.exit ?_; try simp only [thn, inBlk, if_true, reduceIte, Nat.reduceEqDiff])
        | (refine AWP.ret ?_; try dsimp only [thn, inBlk])
        | (refine AWP.condT ?_ ?_; (focus (simp [go_sem]; done)))
        | (refine AWP.condF ?_ ?_; (focus (simp [go_sem]; done)))
        | (apply AWP.rE; (focus (simp [go_sem]; exact ⟨rfl, rfl⟩)); try dsimp only [thn, inBlk])
        | (apply AWP.dE hmix [.n 0 [0], .n 1 [45], .n 2 [46], .n 3 [47], .n 4 [4], .n 5 [49], .n 6 [50], .n 7 [48, 51], .n 8 [52], .n 9 [44], .n 10 [44], .n 11 [], .w 12 [11, 53] [], .n 13 [54]]; (focus kernel_rfl); (focus (simp [go_sem]; exact ⟨rfl, rfl⟩)); try dsimp only [thn, inBlk])
        | fail)
      simp [bodyQ, thn, inBlk, resA, resV, go_sem]
      exact back k4
  simp only [goodC, Bool.and_eq_true] at hgb
  obtain ⟨hnb, hgr⟩ := hgb
  have hgood : goodC c = true := by simp [goodC, hnb, hgr]
  rw [hnb, hgr]
  have c4 := k4.b2.obj
  have c4' := k4.b1.obj
  by_cases hd : c.g.en < now
  · have e : putR L c now = (63, L) := by simp [putR, hgood, hd]
    rw [e]
    refine awpL_restE (by simp [go_sem]; exact ⟨rfl, rfl⟩) ?_; try dsimp only [thn, inBlk]
    (repeat' first
      | refine AWP.seq ?_
      | refine AWP.block ?_
      | (refine AWP.skip ?_; try dsimp only [thn, inBlk])
      | (refine AWP.exit ?_; try simp only [thn, inBlk, if_true, reduceIte, Nat.reduceEqDiff])
      | (refine AWP.ret ?_; try dsimp only [thn, inBlk])
      | (refine AWP.condT ?_ ?_; (focus (simp [go_sem, c4, c4', hd]; done)))
      | (refine AWP.condF ?_ ?_; (focus (simp [go_sem, c4, c4', hd]; done)))
      | (apply AWP.rE; (focus (simp [go_sem, c4, c4', hd]; exact ⟨rfl, rfl⟩)); try dsimp only [thn, inBlk])
      | (apply AWP.dE hmix [.n 0 [0], .n 1 [45], .n 2 [46], .n 3 [47], .n 4 [4], .n 5 [49], .n 6 [50], .n 7 [48, 51], .n 8 [52], .n 9 [44], .n 10 [44], .n 11 [], .w 12 [11, 53] [], .n 13 [54]]; (focus kernel_rfl); (focus (simp [go_sem, c4, c4', hd]; exact ⟨rfl, rfl⟩)); try dsimp only [thn, inBlk])
      | fail)
    simp [bodyQ, thn, inBlk, resA, resV, go_sem]
    exact back k4
  obtain ⟨m, V, hV, k5⟩ := csc_iff.1 k4.b3
  have k6 : Own O h5 (cell h.next (.row (cr c p) 34 23 true false) :: cell (h.next + 1) (.row [.int .i64 now] 2 1 true false) :: cell hA.next (.row [.slice a n cap, tx q] 57 2 true false) :: cell i (brow m) :: mpc tx crV m V :: (V.map sub ++ R)) :=
    Own.outR (A := [_, _, _, _]) (Own.outR (A := [_, _, _]) (Own.outR (A := [_, _]) k5))
  have c6 := k6.b3.obj
  refine awpL_restE (by simp [go_sem]; exact ⟨rfl, rfl⟩) ?_; try dsimp only [thn, inBlk]
  (repeat' first
    | refine AWP.seq ?_
    | refine AWP.block ?_
    | (refine AWP.skip ?_; try dsimp only [thn, inBlk])
    | (refine AWP.exit ?_; try simp only [thn, inBlk, if_true, reduceIte, Nat.reduceEqDiff])
    | (refine AWP.ret ?_; try dsimp only [thn, inBlk])
    | (refine AWP.condT ?_ ?_; (focus (simp [go_sem, c4, c4', hd]; done)))
    | (refine AWP.condF ?_ ?_; (focus (simp [go_sem, c4, c4', hd]; done)))
    | (apply AWP.rE; (focus (simp [go_sem, c4, c4', hd]; exact ⟨rfl, rfl⟩)); try dsimp only [thn, inBlk])
    | (apply AWP.dE hmix [.n 0 [0], .n 1 [45], .n 2 [46], .n 3 [47], .n 4 [4], .n 5 [49], .n 6 [50], .n 7 [48, 51], .n 8 [52], .n 9 [44], .n 10 [44], .n 11 [], .w 12 [11, 53] [], .n 13 [54]]; (focus kernel_rfl); (focus (simp [go_sem, c4, c4', hd]; exact ⟨rfl, rfl⟩)); try dsimp only [thn, inBlk])
    | fail)
  refine AWP.callE (by simp [go_sem, c6]; exact ⟨rfl, rfl, rfl, rfl, rfl⟩) (by kernel_rfl) ?_
  refine (deleteFunc_calls k6.b1.b4 (er_kl hV hI) (er_nd hV hI)).mono ?_
  rintro r h7 k7
  have k8 := Own.subIn (A := [_, _, _, _, _]) ((List.filter_sublist (p := fun a : KV => !decide (a.2.1.g.en < now)) (l := V)).map sub) k7
  simp only [List.cons_append, List.nil_append] at k8
  have hV2 := er_keep (now := now) hV
  have hI2 := hI.keep now
  generalize V.filter (fun a => !decide (a.2.1.g.en < now)) = K at *
  have e0 : putR L c now = if get (keepL L now) c.g.sv = none ∧ 8 ≤ (keepL L now).length then (2, keepL L now) else (0, setC (keepL L now) c) := by
    simp only [putR, hgood, hd]; simp
  rw [e0]
  generalize keepL L now = L2 at *
  have c8 := k8.b2.obj
  have i8 := k8.b4.obj
  have hlen := er_len hV2
  have hxr : ∀ {hh : AHeap} {A B C D E F : Chunk}, Own O hh (A :: B :: C :: D :: E :: F :: (K.map sub ++ R)) → Bytes hh (tkV c p) c.tk := fun kk => hx _ kk.tail.tail.tail.tail.tail.tail.rest
  cases hg : get L2 c.g.sv with
  | none =>
    have lk := lk_none hV2 hI2 hg k8 (by omega)
    have k10 := k8.push (.row (cr zC zP) 34 23 true false)
    have c10 := k10.obj
    have d10 := k10.b3.obj
    have i10 := k10.b5.obj
    obtain ⟨es, clk, om, oz⟩ := k10.b1.map_obj
    by_cases h8 : 8 ≤ L2.length
    · have e : (if (none : Option Cr) = none ∧ 8 ≤ L2.length then ((2 : Int), L2) else (0, setC L2 c)) = (2, L2) := by simp [h8]
      rw [e]
      have h8' : (8 : Int) ≤ K.length := by omega
      refine awpL_restE (by simp [go_sem]; exact ⟨rfl, rfl⟩) ?_; try dsimp only [thn, inBlk]
      (repeat' first
        | refine AWP.seq ?_
        | refine AWP.block ?_
        | (refine AWP.skip ?_; try dsimp only [thn, inBlk])
        | (refine AWP.exit ?_; try simp only [thn, inBlk, if_true, reduceIte, Nat.reduceEqDiff])
        | (refine AWP.ret ?_; try dsimp only [thn, inBlk])
        | (refine AWP.condT ?_ ?_; (focus (simp [go_sem, c8, i8, lk, ↓allocC, c10, d10, i10, om, oz, h8']; done)))
        | (refine AWP.condF ?_ ?_; (focus (simp [go_sem, c8, i8, lk, ↓allocC, c10, d10, i10, om, oz, h8']; done)))
        | (apply AWP.rE; (focus (simp [go_sem, c8, i8, lk, ↓allocC, c10, d10, i10, om, oz, h8']; exact ⟨rfl, rfl⟩)); try dsimp only [thn, inBlk])
        | (apply AWP.dE hmix [.n 0 [0], .n 1 [45], .n 2 [46], .n 3 [47], .n 4 [4], .n 5 [49], .n 6 [50], .n 7 [48, 51], .n 8 [52], .n 9 [44], .n 10 [44], .n 11 [], .w 12 [11, 53] [], .n 13 [54]]; (focus kernel_rfl); (focus (simp [go_sem, c8, i8, lk, ↓allocC, c10, d10, i10, om, oz, h8']; exact ⟨rfl, rfl⟩)); try dsimp only [thn, inBlk])
        | fail)
      simp [bodyQ, thn, inBlk, resA, resV, go_sem]
      exact csc_iff.2 ⟨m, K, hV2, k10.tail.d1.d1.d1.b1⟩
    · have e : (if (none : Option Cr) = none ∧ 8 ≤ L2.length then ((2 : Int), L2) else (0, setC L2 c)) = (0, setC L2 c) := by simp [h8]
      rw [e]
      have h8' : ¬ (8 : Int) ≤ K.length := by omega
      refine awpL_restE (by simp [go_sem]; exact ⟨rfl, rfl⟩) ?_; try dsimp only [thn, inBlk]
      (repeat' first
        | refine AWP.seq ?_
        | refine AWP.block ?_
        | (refine AWP.skip ?_; try dsimp only [thn, inBlk])
        | (refine AWP.exit ?_; try simp only [thn, inBlk, if_true, reduceIte, Nat.reduceEqDiff])
        | (refine AWP.ret ?_; try dsimp only [thn, inBlk])
        | (refine AWP.condT ?_ ?_; (focus (simp [go_sem, c8, i8, lk, ↓allocC, c10, d10, i10, om, oz, h8']; done)))
        | (refine AWP.condF ?_ ?_; (focus (simp [go_sem, c8, i8, lk, ↓allocC, c10, d10, i10, om, oz, h8']; done)))
        | (apply AWP.rE; (focus (simp [go_sem, c8, i8, lk, ↓allocC, c10, d10, i10, om, oz, h8']; exact ⟨rfl, rfl⟩)); try dsimp only [thn, inBlk])
        | (apply AWP.dE hmix [.n 0 [0], .n 1 [45], .n 2 [46], .n 3 [47], .n 4 [4], .n 5 [49], .n 6 [50], .n 7 [48, 51], .n 8 [52], .n 9 [44], .n 10 [44], .n 11 [], .w 12 [11, 53] [], .n 13 [54]]; (focus kernel_rfl); (focus (simp [go_sem, c8, i8, lk, ↓allocC, c10, d10, i10, om, oz, h8']; exact ⟨rfl, rfl⟩)); try dsimp only [thn, inBlk])
        | fail)
      refine AWP.draw hmix [.n 0 [0], .n 1 [65], .n 2 [66], .n 3 [67], .n 4 [4], .n 5 [69], .n 6 [70], .n 7 [4], .w 8 [72] [3, 6], .w 9 [68, 71, 73] []] (by kernel_rfl) ?_
      refine awpD_callR 8 (by rfl) (by rfl) (by simp [go_sem, d10, i10]; exact ⟨rfl, rfl, rfl⟩) (by rfl) (by rfl) (by simp [go_sem]) (by simp [go_sem, d10, i10]; exact ⟨rfl, rfl⟩) (by kernel_rfl) ?_
      refine (copied_calls (c := c) (p := p) k10 (fun hh kk => hxr kk) h3).mono ?_
      rintro r h11 ⟨p', rfl, k11⟩
      have d11 := k11.b4.obj
      have i11 := k11.b6.obj
      refine ⟨by simp [still, go_sem, d10, i10, d11, i11], ?_⟩
      have k12 : Own O h11 (tkb c p' :: cell i (brow m) :: mpc tx crV m K :: (K.map sub ++ R)) := (k11.d1.d2.d2.d2).b2.b1
      obtain ⟨h13, e13, n13, k13⟩ := csc_set hI2 (by omega) hV2 k12
      refine awpD_writeR 0 (by rfl) (by rfl) (by simp [go_sem, d11, i11, e13]; exact ⟨rfl, rfl, rfl⟩) (by rfl) (by rfl) (by simp [go_sem]) (by simp [go_sem, d11, i11, e13]; exact ⟨rfl, rfl⟩) (by simp [still, go_sem, d11, i11, e13]) ?_
      refine awpD_restR (by rfl) (by simp [go_sem]; exact ⟨rfl, rfl, rfl⟩) ?_; try dsimp only [thn, inBlk]
      (repeat' first
        | refine AWP.seq ?_
        | refine AWP.block ?_
        | (refine AWP.skip ?_; try dsimp only [thn, inBlk])
        | (refine AWP.exit ?_; try simp only [thn, inBlk, if_true, reduceIte, Nat.reduceEqDiff])
        | (refine AWP.ret ?_; try dsimp only [thn, inBlk])
        | (refine AWP.condT ?_ ?_; (focus (simp [go_sem]; done)))
        | (refine AWP.condF ?_ ?_; (focus (simp [go_sem]; done)))
        | (apply AWP.rE; (focus (simp [go_sem]; exact ⟨rfl, rfl⟩)); try dsimp only [thn, inBlk])
        | (apply AWP.dE hmix [.n 0 [0], .n 1 [45], .n 2 [46], .n 3 [47], .n 4 [4], .n 5 [49], .n 6 [50], .n 7 [48, 51], .n 8 [52], .n 9 [44], .n 10 [44], .n 11 [], .w 12 [11, 53] [], .n 13 [54]]; (focus kernel_rfl); (focus (simp [go_sem]; exact ⟨rfl, rfl⟩)); try dsimp only [thn, inBlk])
        | fail)
      simp [bodyQ, thn, inBlk, resA, resV, go_sem]
      exact k13
  | some c0 =>
    obtain ⟨j, p0, hj, hf, hp, lk⟩ := lk_some hV2 hI2 hg k8 (by omega)
    have k10 := k8.push (.row (cr c0 p0) 34 23 true false)
    have c10 := k10.obj
    have d10 := k10.b3.obj
    have i10 := k10.b5.obj
    have e : (if (some c0 : Option Cr) = none ∧ 8 ≤ L2.length then ((2 : Int), L2) else (0, setC L2 c)) = (0, setC L2 c) := by simp
    rw [e]
    refine awpL_restE (by simp [go_sem]; exact ⟨rfl, rfl⟩) ?_; try dsimp only [thn, inBlk]
    (repeat' first
      | refine AWP.seq ?_
      | refine AWP.block ?_
      | (refine AWP.skip ?_; try dsimp only [thn, inBlk])
      | (refine AWP.exit ?_; try simp only [thn, inBlk, if_true, reduceIte, Nat.reduceEqDiff])
      | (refine AWP.ret ?_; try dsimp only [thn, inBlk])
      | (refine AWP.condT ?_ ?_; (focus (simp [go_sem, c8, i8, lk, ↓allocC, c10, d10, i10]; done)))
      | (refine AWP.condF ?_ ?_; (focus (simp [go_sem, c8, i8, lk, ↓allocC, c10, d10, i10]; done)))
      | (apply AWP.rE; (focus (simp [go_sem, c8, i8, lk, ↓allocC, c10, d10, i10]; exact ⟨rfl, rfl⟩)); try dsimp only [thn, inBlk])
      | (apply AWP.dE hmix [.n 0 [0], .n 1 [45], .n 2 [46], .n 3 [47], .n 4 [4], .n 5 [49], .n 6 [50], .n 7 [48, 51], .n 8 [52], .n 9 [44], .n 10 [44], .n 11 [], .w 12 [11, 53] [], .n 13 [54]]; (focus kernel_rfl); (focus (simp [go_sem, c8, i8, lk, ↓allocC, c10, d10, i10]; exact ⟨rfl, rfl⟩)); try dsimp only [thn, inBlk])
      | fail)
    refine AWP.draw hmix [.n 0 [0], .n 1 [65], .n 2 [66], .n 3 [67], .n 4 [4], .n 5 [69], .n 6 [70], .n 7 [4], .w 8 [72] [3, 6], .w 9 [68, 71, 73] []] (by kernel_rfl) ?_
    refine awpD_callR 8 (by rfl) (by rfl) (by simp [go_sem, d10, i10]; exact ⟨rfl, rfl, rfl⟩) (by rfl) (by rfl) (by simp [go_sem]) (by simp [go_sem, d10, i10]; exact ⟨rfl, rfl⟩) (by kernel_rfl) ?_
    refine (copied_calls (c := c) (p := p) k10 (fun hh kk => hxr kk) h3).mono ?_
    rintro r h11 ⟨p', rfl, k11⟩
    have d11 := k11.b4.obj
    have i11 := k11.b6.obj
    refine ⟨by simp [still, go_sem, d10, i10, d11, i11], ?_⟩
    have k12 : Own O h11 (tkb c p' :: cell i (brow m) :: mpc tx crV m K :: (K.map sub ++ R)) := (k11.d1.d2.d2.d2).b2.b1
    obtain ⟨h13, e13, n13, k13⟩ := csc_set hI2 (by omega) hV2 k12
    refine awpD_writeR 0 (by rfl) (by rfl) (by simp [go_sem, d11, i11, e13]; exact ⟨rfl, rfl, rfl⟩) (by rfl) (by rfl) (by simp [go_sem]) (by simp [go_sem, d11, i11, e13]; exact ⟨rfl, rfl⟩) (by simp [still, go_sem, d11, i11, e13]) ?_
    refine awpD_restR (by rfl) (by simp [go_sem]; exact ⟨rfl, rfl, rfl⟩) ?_; try dsimp only [thn, inBlk]
    (repeat' first
      | refine AWP.seq ?_
      | refine AWP.block ?_
      | (refine AWP.skip ?_; try dsimp only [thn, inBlk])
      | (refine AWP.exit ?_; try simp only [thn, inBlk, if_true, reduceIte, Nat.reduceEqDiff])
      | (refine AWP.ret ?_; try dsimp only [thn, inBlk])
      | (refine AWP.condT ?_ ?_; (focus (simp [go_sem]; done)))
      | (refine AWP.condF ?_ ?_; (focus (simp [go_sem]; done)))
      | (apply AWP.rE; (focus (simp [go_sem]; exact ⟨rfl, rfl⟩)); try dsimp only [thn, inBlk])
      | (apply AWP.dE hmix [.n 0 [0], .n 1 [45], .n 2 [46], .n 3 [47], .n 4 [4], .n 5 [49], .n 6 [50], .n 7 [48, 51], .n 8 [52], .n 9 [44], .n 10 [44], .n 11 [], .w 12 [11, 53] [], .n 13 [54]]; (focus kernel_rfl); (focus (simp [go_sem]; exact ⟨rfl, rfl⟩)); try dsimp only [thn, inBlk])
      | fail)
    simp [bodyQ, thn, inBlk, resA, resV, go_sem]
    exact k13
end
end L11
