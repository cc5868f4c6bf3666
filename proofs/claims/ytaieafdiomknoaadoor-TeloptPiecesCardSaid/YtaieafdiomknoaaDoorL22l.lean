import Derived.Test.YtaieafdiomknoaaDoorL22k
open Go Ab Go.Proofs
namespace L22
set_option autoImplicit false
set_option linter.unusedSimpArgs false
set_option linter.unusedVariables false

/-- One part in a row of its own. -/
theorem br_one {O : Old} {h : AHeap} {R : List Chunk} {i : Nat} {k v o : Int} {a : Option Addr} {cap : Nat} {bs : List UInt8} (kk : Own O h (cell i (.row [.int .i64 k, .int .i64 v, .int .i64 o, .slice a bs.length cap] 24 4 true false) :: R)) (hb : Bytes h (.slice a bs.length cap) bs) :
    BR pre 4 h (.slice (some ⟨i, 0, none⟩) 1 1) [(((k, v, o), bs) : Tl)] := by
  have k2 := kk.os_mk (n := 1) (cap := 1) (off := 0) (cs := [.int .i64 k, .int .i64 v, .int .i64 o, .slice a bs.length cap]) (Nat.le_refl _) (by simp) (by simp)
  refine ⟨[(a, cap)], rfl, k2.os_sl, fun j f p hf hp => ?_⟩
  rcases j with _ | j
  · simp at hf hp; subst hf hp; exact hb
  · simp at hf

set_option maxHeartbeats 4000000 in
theorem writes_calls {h : AHeap} {kd v o : Int} {a : Option Addr} {cap : Nat} {bs : List UInt8} (hb : h.base = h.next) (hp : Bytes h (.slice a bs.length cap) bs) :
    ACalls Tryd.prog 3 #[tel kd v o (.slice a bs.length cap)] h fun r _ => r = .bool true := by
  refine Own.of_wf fun k0 => ?_
  refine ACalls.of_awp (args := [tel kd v o (.slice a bs.length cap)]) (n := 114) Tryd.func3 rfl rfl (by show 1 ≤ 114; omega) ?_
  have k1 := k0.push (trow kd v o (.slice a bs.length cap))
  (repeat' first
    | refine AWP.seq ?_
    | refine AWP.block ?_
    | (refine AWP.skip ?_; try dsimp only [thn, inBlk])
    | (refine AWP.exit ?_; try simp only [thn, inBlk, if_true, reduceIte, Nat.reduceEqDiff])
    | (refine AWP.ret ?_; try dsimp only [thn, inBlk])
    | (refine AWP.condT ?_ ?_; (focus (simp [go_sem]; done)))
    | (refine AWP.condF ?_ ?_; (focus (simp [go_sem]; done)))
    | (apply AWP.rE; (focus (simp [go_sem]; exact ⟨rfl, rfl⟩)); try dsimp only [thn, inBlk])
    | fail)
  refine AWP.callE (by simp [go_sem]; exact ⟨rfl, rfl, rfl, rfl, rfl⟩) (by kernel_rfl) ?_
  refine (speaks_calls k1).mono ?_
  rintro r h1 ⟨rfl, k2⟩
  have c2 := k2.obj
  generalize h.next = tp at k1 k2 c2 ⊢
  refine awpL_restE (by simp [go_sem]; exact ⟨rfl, rfl⟩) ?_; try dsimp only [thn, inBlk]
  by_cases hl : 4000 < bs.length
  · have hl' : (4000 : Int) < bs.length := by omega
    (repeat' first
      | refine AWP.seq ?_
      | refine AWP.block ?_
      | (refine AWP.skip ?_; try dsimp only [thn, inBlk])
      | (refine AWP.exit ?_; try simp only [thn, inBlk, if_true, reduceIte, Nat.reduceEqDiff])
      | (refine AWP.ret ?_; try dsimp only [thn, inBlk])
      | (refine AWP.condT ?_ ?_; (focus (simp [go_sem, c2, hl']; done)))
      | (refine AWP.condF ?_ ?_; (focus (simp [go_sem, c2, hl']; done)))
      | (apply AWP.rE; (focus (simp [go_sem, c2, hl']; exact ⟨rfl, rfl⟩)); try dsimp only [thn, inBlk])
      | fail)
    simp [bodyQ, thn, inBlk, resA, resV, go_sem]
  have hl' : ¬ (4000 : Int) < bs.length := by omega
  obtain ⟨a3, cap3, h3, e3, k3⟩ := k2.copy (P := Tryd.prog) (t := 22) (xt := 22) (i := h1.next) Tryd.underlying22 tsz5 tby5 tz5 nI22 (fun hh kk => hp.of_old hb kk) (by omega) rfl
  have c2' := (k2.push (.row [] 5 1 true false)).b1.obj
  have c3 := k3.b1.obj
  have k4 := k3.push (trow kd v o (.slice a3 bs.length cap3))
  have c4 := k4.obj
  have c5 := k4.b2.obj
  (repeat' first
    | refine AWP.seq ?_
    | refine AWP.block ?_
    | (refine AWP.skip ?_; try dsimp only [thn, inBlk])
    | (refine AWP.exit ?_; try simp only [thn, inBlk, if_true, reduceIte, Nat.reduceEqDiff])
    | (refine AWP.ret ?_; try dsimp only [thn, inBlk])
    | (refine AWP.condT ?_ ?_; (focus (simp [go_sem, c2, c2', hl', e3, c3]; done)))
    | (refine AWP.condF ?_ ?_; (focus (simp [go_sem, c2, c2', hl', e3, c3]; done)))
    | (apply AWP.rE; (focus (simp [go_sem, c2, c2', hl', e3, c3]; exact ⟨rfl, rfl⟩)); try dsimp only [thn, inBlk])
    | fail)
  generalize hH4 : h3.push (trow kd v o (.slice a3 bs.length cap3)) = h4 at *
  refine AWP.callE (by simp [go_sem, c4]; exact ⟨rfl, rfl, rfl, rfl, rfl⟩) (by kernel_rfl) ?_
  refine (write_calls k4 (fun hh kk => kk.b1.ob_bytes) (by omega)).mono ?_
  rintro r h5 ⟨a5, cap5, rfl, k5⟩
  have c6 := k5.b3.obj
  refine awpL_restE (by simp [go_sem]; exact ⟨rfl, rfl⟩) ?_; try dsimp only [thn, inBlk]
  (repeat' first
    | refine AWP.seq ?_
    | refine AWP.block ?_
    | (refine AWP.skip ?_; try dsimp only [thn, inBlk])
    | (refine AWP.exit ?_; try simp only [thn, inBlk, if_true, reduceIte, Nat.reduceEqDiff])
    | (refine AWP.ret ?_; try dsimp only [thn, inBlk])
    | (refine AWP.condT ?_ ?_; (focus (simp [go_sem]; done)))
    | (refine AWP.condF ?_ ?_; (focus (simp [go_sem]; done)))
    | (apply AWP.rE; (focus (simp [go_sem]; exact ⟨rfl, rfl⟩)); try dsimp only [thn, inBlk])
    | fail)
  refine AWP.callE (by simp [go_sem, c6]; exact ⟨rfl, rfl, rfl, rfl, rfl⟩) (by kernel_rfl) ?_
  refine (refwrite_calls (kd := kd) (v := v) (o := o) k5 (fun hh kk => hp.of_old hb kk) (by omega)).mono ?_
  rintro r h6 ⟨a6, cap6, rfl, k6⟩
  have c7 := k6.b4.obj
  have s1 := k6.b1.ob_bytes.str (P := Tryd.prog) (t := 22) (e := 5) (u := 9) Tryd.underlying22 Tryd.underlying5 Tryd.underlying9
  have s2 := k6.ob_bytes.str (P := Tryd.prog) (t := 22) (e := 5) (u := 9) Tryd.underlying22 Tryd.underlying5 Tryd.underlying9
  have s3 := k6.b3.ob_bytes.str (P := Tryd.prog) (t := 22) (e := 5) (u := 9) Tryd.underlying22 Tryd.underlying5 Tryd.underlying9
  have s4 := (hp.of_old hb k6).str (P := Tryd.prog) (t := 22) (e := 5) (u := 9) Tryd.underlying22 Tryd.underlying5 Tryd.underlying9
  have fw := feed_wr (k := kd) (v := v) (o := o) (bs := bs)
  obtain ⟨W, hW⟩ : ∃ W, W = wr kd v o bs := ⟨_, rfl⟩
  obtain ⟨E, hE⟩ : ∃ E, E = right kd v o bs.length := ⟨_, rfl⟩
  have hWl : W.length ≤ 10000 := by
    have := esc_length bs
    have := List.count_le_length (a := (255 : UInt8)) (l := bs)
    rw [hW]; unfold wr wbytes
    split
    · split
      · simp
      split
      · simp; omega
      · omega
    · simp
  simp only [← hW, ← hE] at k6 s1 s2 fw ⊢
  refine awpL_restE (by simp [go_sem]; exact ⟨rfl, rfl⟩) ?_; try dsimp only [thn, inBlk]
  (repeat' first
    | refine AWP.seq ?_
    | refine AWP.block ?_
    | (refine AWP.skip ?_; try dsimp only [thn, inBlk])
    | (refine AWP.exit ?_; try simp only [thn, inBlk, if_true, reduceIte, Nat.reduceEqDiff])
    | (refine AWP.ret ?_; try dsimp only [thn, inBlk])
    | (refine AWP.condT ?_ ?_; (focus (simp [go_sem, c7, s1, s2, s3, s4]; done)))
    | (refine AWP.condF ?_ ?_; (focus (simp [go_sem, c7, s1, s2, s3, s4]; done)))
    | (apply AWP.rE; (focus (simp [go_sem, c7, s1, s2, s3, s4]; exact ⟨rfl, rfl⟩)); try dsimp only [thn, inBlk])
    | fail)
  refine AWP.callE (by simp [go_sem]; exact ⟨rfl, rfl, rfl, rfl, rfl⟩) (by kernel_rfl) ?_
  refine (new_calls k6).mono ?_
  rintro r h7 ⟨i, rfl, k7⟩
  refine awpL_restE (by simp [go_sem]; exact ⟨rfl, rfl⟩) ?_; try dsimp only [thn, inBlk]
  by_cases hE0 : E = 0
  rotate_left
  · have hE1 : (E != 0) = true := by simpa using hE0
    (repeat' first
      | refine AWP.seq ?_
      | refine AWP.block ?_
      | (refine AWP.skip ?_; try dsimp only [thn, inBlk])
      | (refine AWP.exit ?_; try simp only [thn, inBlk, if_true, reduceIte, Nat.reduceEqDiff])
      | (refine AWP.ret ?_; try dsimp only [thn, inBlk])
      | (refine AWP.condT ?_ ?_; (focus (simp [go_sem, hE1]; done)))
      | (refine AWP.condF ?_ ?_; (focus (simp [go_sem, hE1]; done)))
      | (apply AWP.rE; (focus (simp [go_sem, hE1]; exact ⟨rfl, rfl⟩)); try dsimp only [thn, inBlk])
      | fail)
    simp [bodyQ, thn, inBlk, resA, resV, go_sem]
  obtain ⟨fw1, fw2⟩ := fw (by omega)
  rw [hE0]
  (repeat' first
    | refine AWP.seq ?_
    | refine AWP.block ?_
    | (refine AWP.skip ?_; try dsimp only [thn, inBlk])
    | (refine AWP.exit ?_; try simp only [thn, inBlk, if_true, reduceIte, Nat.reduceEqDiff])
    | (refine AWP.ret ?_; try dsimp only [thn, inBlk])
    | (refine AWP.condT ?_ ?_; (focus (simp [go_sem]; done)))
    | (refine AWP.condF ?_ ?_; (focus (simp [go_sem]; done)))
    | (apply AWP.rE; (focus (simp [go_sem]; exact ⟨rfl, rfl⟩)); try dsimp only [thn, inBlk])
    | fail)
  refine AWP.callE (by simp [go_sem]; exact ⟨rfl, rfl, rfl, rfl, rfl⟩) (by kernel_rfl) ?_
  refine (feed_calls (bs := W) (to_rdz k7) (fun hh kk => kk.b1.ob_bytes) (by omega) (by simp [rd0])).mono ?_
  rintro r h8 ⟨a8, cap8, rfl, k8⟩
  rw [fw2] at k8
  rw [fw1, fw2]
  have c8 := k8.b6.obj
  have hr0 : right kd v o bs.length = 0 := by omega
  have hlt := k8.b6.atc.2.2
  have cP : ∀ r, (h8.push r).obj tp = some (trow kd v o (.slice a bs.length cap)) := fun r => (push_old _ _ _ hlt).trans c8
  clear fw fw1 fw2 k7 k6 k5 k4 k3 k2 k1 c2 c3 c4 c5 c6 c7 hH4 e3 c2' s1 s2 s3 s4
  rcases right_zero hr0 with ⟨rfl, ho1, ho2, hv1, hv2⟩ | ⟨rfl, ho1, ho2, hn⟩ | ⟨rfl, hn⟩
  · have hbk : back 2 v o bs = [((2, v, o), [])] := rfl
    rw [hbk] at k8 ⊢
    refine awpL_restE (by simp [go_sem]; exact ⟨rfl, rfl⟩) ?_; try dsimp only [thn, inBlk]
    (repeat' first
      | refine AWP.seq ?_
      | refine AWP.block ?_
      | (refine AWP.skip ?_; try dsimp only [thn, inBlk])
      | (refine AWP.exit ?_; try simp only [thn, inBlk, if_true, reduceIte, Nat.reduceEqDiff])
      | (refine AWP.ret ?_; try dsimp only [thn, inBlk])
      | (refine AWP.condT ?_ ?_; (focus (simp [go_sem, c8, cP]; done)))
      | (refine AWP.condF ?_ ?_; (focus (simp [go_sem, c8, cP]; done)))
      | (apply AWP.rE; (focus (simp [go_sem, c8, cP]; exact ⟨rfl, rfl⟩)); try dsimp only [thn, inBlk])
      | fail)
    refine AWP.draw hmix [.n 0 [1], .n 1 [75], .n 2 [1], .n 3 [77], .n 4 [12], .w 5 [79, 76] [3], .n 6 [12], .w 7 [80, 78] []] (by kernel_rfl) ?_
    refine awpD_writeR 5 (by rfl) (by rfl) (by simp [go_sem, cP]; exact ⟨rfl, rfl, rfl⟩) (by rfl) (by rfl) (by simp [go_sem]) (by simp [go_sem, cP]; exact ⟨rfl, rfl⟩) (by simp [still, go_sem, cP]) ?_
    refine awpD_writeR 1 (by rfl) (by rfl) (by simp [go_sem, cP]; exact ⟨rfl, rfl, rfl⟩) (by rfl) (by rfl) (by simp [go_sem]) (by simp [go_sem, cP]; exact ⟨rfl, rfl⟩) (by simp [still, go_sem, cP]) ?_
    refine awpD_restR (by rfl) (by simp [go_sem]; exact ⟨rfl, rfl, rfl⟩) ?_; try dsimp only [thn, inBlk]
    have kA := k8.push (.row [.int .i64 2, .int .i64 v, .int .i64 o, .slice none 0 0] 24 4 true false)
    (repeat' first
      | refine AWP.seq ?_
      | refine AWP.block ?_
      | (refine AWP.skip ?_; try dsimp only [thn, inBlk])
      | (refine AWP.exit ?_; try simp only [thn, inBlk, if_true, reduceIte, Nat.reduceEqDiff])
      | (refine AWP.ret ?_; try dsimp only [thn, inBlk])
      | (refine AWP.condT ?_ ?_; (focus (simp [go_sem, cP]; done)))
      | (refine AWP.condF ?_ ?_; (focus (simp [go_sem, cP]; done)))
      | (apply AWP.rE; (focus (simp [go_sem, cP]; exact ⟨rfl, rfl⟩)); try dsimp only [thn, inBlk])
      | fail)
    have kB := kA.push (.row [.int .i64 2, .int .i64 v, .int .i64 o, .slice none 0 0] 24 4 true false)
    have cA := kA.obj
    refine AWP.callE (by simp [go_sem, cA]; exact ⟨rfl, rfl, rfl, rfl, rfl⟩) (by kernel_rfl) ?_
    refine (same_calls kB.b2.brecs_read (br_one kB (.inl ⟨rfl, rfl⟩)) (by simp)).mono ?_
    rintro r h9 ⟨rfl, rfl⟩
    refine awpL_restE (by simp [go_sem]; exact ⟨rfl, rfl⟩) ?_; try dsimp only [thn, inBlk]
    (repeat' first
      | refine AWP.seq ?_
      | refine AWP.block ?_
      | (refine AWP.skip ?_; try dsimp only [thn, inBlk])
      | (refine AWP.exit ?_; try simp only [thn, inBlk, if_true, reduceIte, Nat.reduceEqDiff])
      | (refine AWP.ret ?_; try dsimp only [thn, inBlk])
      | (refine AWP.condT ?_ ?_; (focus (simp [go_sem]; done)))
      | (refine AWP.condF ?_ ?_; (focus (simp [go_sem]; done)))
      | (apply AWP.rE; (focus (simp [go_sem]; exact ⟨rfl, rfl⟩)); try dsimp only [thn, inBlk])
      | fail)
    simp [bodyQ, thn, inBlk, resA, resV, go_sem]
  · have hbk : back 3 v o bs = [((3, 0, o), bs)] := rfl
    rw [hbk] at k8 ⊢
    refine awpL_restE (by simp [go_sem]; exact ⟨rfl, rfl⟩) ?_; try dsimp only [thn, inBlk]
    (repeat' first
      | refine AWP.seq ?_
      | refine AWP.block ?_
      | (refine AWP.skip ?_; try dsimp only [thn, inBlk])
      | (refine AWP.exit ?_; try simp only [thn, inBlk, if_true, reduceIte, Nat.reduceEqDiff])
      | (refine AWP.ret ?_; try dsimp only [thn, inBlk])
      | (refine AWP.condT ?_ ?_; (focus (simp [go_sem, c8, cP]; done)))
      | (refine AWP.condF ?_ ?_; (focus (simp [go_sem, c8, cP]; done)))
      | (apply AWP.rE; (focus (simp [go_sem, c8, cP]; exact ⟨rfl, rfl⟩)); try dsimp only [thn, inBlk])
      | fail)
    have kA := k8.push (.row [.int .i64 3, .int .i64 0, .int .i64 o, .slice a bs.length cap] 24 4 true false)
    have kB := kA.push (.row [.int .i64 3, .int .i64 0, .int .i64 o, .slice a bs.length cap] 24 4 true false)
    have cA := kA.obj
    refine AWP.callE (by simp [go_sem, cA]; exact ⟨rfl, rfl, rfl, rfl, rfl⟩) (by kernel_rfl) ?_
    refine (same_calls kB.b2.brecs_read (br_one kB (hp.of_old hb kB)) (by simp)).mono ?_
    rintro r h9 ⟨rfl, rfl⟩
    refine awpL_restE (by simp [go_sem]; exact ⟨rfl, rfl⟩) ?_; try dsimp only [thn, inBlk]
    (repeat' first
      | refine AWP.seq ?_
      | refine AWP.block ?_
      | (refine AWP.skip ?_; try dsimp only [thn, inBlk])
      | (refine AWP.exit ?_; try simp only [thn, inBlk, if_true, reduceIte, Nat.reduceEqDiff])
      | (refine AWP.ret ?_; try dsimp only [thn, inBlk])
      | (refine AWP.condT ?_ ?_; (focus (simp [go_sem]; done)))
      | (refine AWP.condF ?_ ?_; (focus (simp [go_sem]; done)))
      | (apply AWP.rE; (focus (simp [go_sem]; exact ⟨rfl, rfl⟩)); try dsimp only [thn, inBlk])
      | fail)
    simp [bodyQ, thn, inBlk, resA, resV, go_sem]
  · by_cases hb0 : bs = []
    · subst hb0
      have hbk : back 1 v o [] = [] := rfl
      rw [hbk] at k8 ⊢
      refine awpL_restE (by simp [go_sem]; exact ⟨rfl, rfl⟩) ?_; try dsimp only [thn, inBlk]
      (repeat' first
        | refine AWP.seq ?_
        | refine AWP.block ?_
        | (refine AWP.skip ?_; try dsimp only [thn, inBlk])
        | (refine AWP.exit ?_; try simp only [thn, inBlk, if_true, reduceIte, Nat.reduceEqDiff])
        | (refine AWP.ret ?_; try dsimp only [thn, inBlk])
        | (refine AWP.condT ?_ ?_; (focus (simp [go_sem, c8, cP]; done)))
        | (refine AWP.condF ?_ ?_; (focus (simp [go_sem, c8, cP]; done)))
        | (apply AWP.rE; (focus (simp [go_sem, c8, cP]; exact ⟨rfl, rfl⟩)); try dsimp only [thn, inBlk])
        | fail)
      simp [bodyQ, thn, inBlk, resA, resV, go_sem]
    have hbk : back 1 v o bs = [((1, 0, 0), bs)] := by simp [back, hb0]
    have hb1 : ((bs.length : Int) == 0) = false := by simpa using hb0
    rw [hbk] at k8 ⊢
    refine awpL_restE (by simp [go_sem]; exact ⟨rfl, rfl⟩) ?_; try dsimp only [thn, inBlk]
    (repeat' first
      | refine AWP.seq ?_
      | refine AWP.block ?_
      | (refine AWP.skip ?_; try dsimp only [thn, inBlk])
      | (refine AWP.exit ?_; try simp only [thn, inBlk, if_true, reduceIte, Nat.reduceEqDiff])
      | (refine AWP.ret ?_; try dsimp only [thn, inBlk])
      | (refine AWP.condT ?_ ?_; (focus (simp [go_sem, c8, cP, hb1]; done)))
      | (refine AWP.condF ?_ ?_; (focus (simp [go_sem, c8, cP, hb1]; done)))
      | (apply AWP.rE; (focus (simp [go_sem, c8, cP, hb1]; exact ⟨rfl, rfl⟩)); try dsimp only [thn, inBlk])
      | fail)
    have kA := k8.push (.row [.int .i64 1, .int .i64 0, .int .i64 0, .slice a bs.length cap] 24 4 true false)
    have kB := kA.push (.row [.int .i64 1, .int .i64 0, .int .i64 0, .slice a bs.length cap] 24 4 true false)
    have cA := kA.obj
    refine AWP.callE (by simp [go_sem, cA]; exact ⟨rfl, rfl, rfl, rfl, rfl⟩) (by kernel_rfl) ?_
    refine (same_calls kB.b2.brecs_read (br_one kB (hp.of_old hb kB)) (by simp)).mono ?_
    rintro r h9 ⟨rfl, rfl⟩
    refine awpL_restE (by simp [go_sem]; exact ⟨rfl, rfl⟩) ?_; try dsimp only [thn, inBlk]
    (repeat' first
      | refine AWP.seq ?_
      | refine AWP.block ?_
      | (refine AWP.skip ?_; try dsimp only [thn, inBlk])
      | (refine AWP.exit ?_; try simp only [thn, inBlk, if_true, reduceIte, Nat.reduceEqDiff])
      | (refine AWP.ret ?_; try dsimp only [thn, inBlk])
      | (refine AWP.condT ?_ ?_; (focus (simp [go_sem]; done)))
      | (refine AWP.condF ?_ ?_; (focus (simp [go_sem]; done)))
      | (apply AWP.rE; (focus (simp [go_sem]; exact ⟨rfl, rfl⟩)); try dsimp only [thn, inBlk])
      | fail)
    simp [bodyQ, thn, inBlk, resA, resV, go_sem]
end L22
