import Derived.Test.YtaieafdiomknoaaDoorL22b
open Go Ab Go.Proofs
namespace L22
set_option autoImplicit false
set_option linter.unusedSimpArgs false
set_option linter.unusedVariables false

/-- A part's bytes. -/
def wbytes (k v o : Int) (bs : List UInt8) : List UInt8 :=
  if k = 2 then [255, UInt8.ofNat v.toNat, UInt8.ofNat o.toNat] else if k = 3 then [255, 250, UInt8.ofNat o.toNat] ++ esc bs ++ [255, 240] else esc bs
def wr (k v o : Int) (bs : List UInt8) : List UInt8 := if right k v o bs.length = 0 then wbytes k v o bs else []

theorem byte_of {z : Int} (h : 0 ≤ z) (h2 : z ≤ 255) : ∃ x : UInt8, z = (x.toNat : Int) := by
  refine ⟨UInt8.ofNat z.toNat, ?_⟩
  rw [UInt8.toNat_ofNat']
  omega
theorem ofNat_byte (x : UInt8) : UInt8.ofNat (x.toNat : Int).toNat = x := by simp
theorem wU8 (x : UInt8) : IntKind.u8.wrap (x.toNat : Int) = x.toNat := by
  have := x.toNat_lt
  exact IntWalk.u8_in _ ⟨by omega, by omega⟩

theorem right_zero {kd v o : Int} {n : Nat} (h : right kd v o n = 0) : (kd = 2 ∧ 0 ≤ o ∧ o ≤ 255 ∧ 251 ≤ v ∧ v ≤ 254) ∨ (kd = 3 ∧ 0 ≤ o ∧ o ≤ 255 ∧ n ≤ 3000) ∨ (kd = 1 ∧ n ≤ 3000) := by
  unfold right at h
  split at h
  · cases h
  split at h
  · cases h
  split at h
  · split at h
    · cases h
    · omega
  · split at h
    · cases h
    · omega

/-- What stands ahead of a part's data, and behind them. -/
theorem sub_app {O : Old} {h : AHeap} {R : List Chunk} {a : Option Addr} {cap nx : Nat} {E : List UInt8} {x : UInt8} (k : Own O h (ob 5 (.slice a E.length cap) E :: cell nx (.row [.int .u8 255, .int .u8 250, .int .u8 x.toNat] 5 1 true false) :: R)) (hm : E.length ≤ 10000000) :
    ∃ a2 cap2 h', appendW Tryd.prog h 22 22 (.slice (some ⟨nx, 0, none⟩) 3 3) (.slice a E.length cap) = some (.slice a2 (3 + E.length) cap2, h') ∧ Own O h' (ob 5 (.slice a2 (3 + E.length) cap2) ([255, 250, x] ++ E) :: R) := by
  have hs := k.ob_bytes.src
  have k1 := (k.b1.os_mk (n := 3) (cap := 3) (off := 0) (cs := [(255 : UInt8), 250, x].map B) (Nat.le_refl _) (by simp) rfl)
  obtain ⟨a2, cap2, h', e1, k2⟩ := Own.appB (P := Tryd.prog) (t := 22) (xt := 22) (bs := [255, 250, x]) Tryd.underlying22 tsz5 tby5 tz5 nI22 k1 hs (by show 3 + _ ≤ _; omega)
  exact ⟨a2, cap2, h', e1, k2.d1⟩
theorem sub_end {O : Old} {h : AHeap} {R : List Chunk} {a : Option Addr} {cap : Nat} {E : List UInt8} {x : UInt8} (k : Own O h (ob 5 (.slice a (3 + E.length) cap) ([255, 250, x] ++ E) :: R)) (hm : E.length ≤ 10000000) :
    ∃ a2 cap2 h', appendW Tryd.prog (h.push (.row [.int .u8 255, .int .u8 240] 5 1 true false)) 22 22 (.slice a (3 + E.length) cap) (.slice (some ⟨h.next, 0, none⟩) 2 2) = some (.slice a2 (3 + E.length + 2) cap2, h') ∧
      Own O h' (ob 5 (.slice a2 ([255, 250, x] ++ E ++ [255, 240]).length cap2) ([255, 250, x] ++ E ++ [255, 240]) :: R) := by
  have hl : ([255, 250, x] ++ E).length = 3 + E.length := by simp; omega
  have hl2 : ([255, 250, x] ++ E ++ [255, 240]).length = 3 + E.length + 2 := by rw [List.length_append, hl]; rfl
  rw [ob, hl] at k
  obtain ⟨a2, cap2, h', e1, k2⟩ := Own.appN (P := Tryd.prog) (t := 22) (xt := 22) (m := 2) (xs := [.int .u8 255, .int .u8 240]) Tryd.underlying22 tsz5 tby5 tz5 nI22 (by omega) (by omega) rfl k rfl rfl rfl (by omega)
  refine ⟨a2, cap2, h', e1, ?_⟩
  rw [ob, hl2, List.map_append]
  exact k2

set_option maxHeartbeats 2000000 in
theorem write_calls {O : Old} {h : AHeap} {R : List Chunk} {d : Value} {bs : List UInt8} {kd v o : Int} (k : Own O h R) (hx : ∀ h, Own O h R → Bytes h d bs) (hm : bs.length ≤ 1000000) :
    ACalls Tryd.prog 9 #[tel kd v o d] h fun r h' => ∃ a cap, r = .tuple #[.slice a (wr kd v o bs).length cap, .int .i64 (right kd v o bs.length)] ∧ Own O h' (ob 5 (.slice a (wr kd v o bs).length cap) (wr kd v o bs) :: R) := by
  obtain ⟨da, dc, rfl⟩ := (hx h k).val
  refine ACalls.of_awp (args := [tel kd v o (.slice da bs.length dc)]) (n := 38) Tryd.func9 rfl rfl (by show 1 ≤ 38; omega) ?_
  have k1 := k.push (trow kd v o (.slice da bs.length dc))
  have c1 := k1.obj
  (repeat' first
    | refine AWP.seq ?_
    | refine AWP.block ?_
    | (refine AWP.skip ?_; try dsimp only [thn, inBlk])
    | (refine AWP.exit ?_; try simp only [thn, inBlk, if_true, reduceIte, Nat.reduceEqDiff])
    | (refine AWP.ret ?_; try dsimp only [thn, inBlk])
    | (refine AWP.condT ?_ ?_; (focus (simp [go_sem, c1]; done)))
    | (refine AWP.condF ?_ ?_; (focus (simp [go_sem, c1]; done)))
    | (apply AWP.rE; (focus (simp [go_sem, c1]; exact ⟨rfl, rfl⟩)); try dsimp only [thn, inBlk])
    | fail)
  refine AWP.callE (by simp [go_sem, c1]; exact ⟨rfl, rfl, rfl, rfl, rfl⟩) (by kernel_rfl) ?_
  refine (right_calls (kd := kd) (v := v) (o := o) (a := da) (n := bs.length) (cap := dc) k1).mono ?_
  rintro r h' ⟨rfl, k2⟩
  have c2 := k2.obj
  refine awpL_restE (by simp [go_sem, c2]; exact ⟨rfl, rfl⟩) ?_; try dsimp only [thn, inBlk]
  by_cases hr : right kd v o bs.length = 0
  rotate_left
  · have hr' : (right kd v o bs.length != 0) = true := by simpa using hr
    have e : wr kd v o bs = [] := by simp [wr, hr]
    (repeat' first
      | refine AWP.seq ?_
      | refine AWP.block ?_
      | (refine AWP.skip ?_; try dsimp only [thn, inBlk])
      | (refine AWP.exit ?_; try simp only [thn, inBlk, if_true, reduceIte, Nat.reduceEqDiff])
      | (refine AWP.ret ?_; try dsimp only [thn, inBlk])
      | (refine AWP.condT ?_ ?_; (focus (simp [go_sem, hr']; done)))
      | (refine AWP.condF ?_ ?_; (focus (simp [go_sem, hr']; done)))
      | (apply AWP.rE; (focus (simp [go_sem, hr']; exact ⟨rfl, rfl⟩)); try dsimp only [thn, inBlk])
      | fail)
    simp [bodyQ, thn, inBlk, resA, resV, go_sem, e]
    exact ⟨none, 0, ⟨rfl, rfl⟩, k2.tail.nil 5 1⟩
  have e : wr kd v o bs = wbytes kd v o bs := by simp [wr, hr]
  rw [hr, e]
  rcases right_zero hr with ⟨rfl, ho1, ho2, hv1, hv2⟩ | ⟨rfl, ho1, ho2, hn⟩ | ⟨rfl, hn⟩
  · obtain ⟨x, rfl⟩ := byte_of (z := o) ho1 ho2
    obtain ⟨y, rfl⟩ := byte_of (z := v) (by omega) (by omega)
    have e2 : wbytes 2 y.toNat x.toNat bs = [255, y, x] := by simp [wbytes]
    rw [e2]
    have w1 := wU8 x
    have w2 := wU8 y
    have k3 := k2.fresh (e := 5) (bs := [255, y, x])
    (repeat' first
      | refine AWP.seq ?_
      | refine AWP.block ?_
      | (refine AWP.skip ?_; try dsimp only [thn, inBlk])
      | (refine AWP.exit ?_; try simp only [thn, inBlk, if_true, reduceIte, Nat.reduceEqDiff])
      | (refine AWP.ret ?_; try dsimp only [thn, inBlk])
      | (refine AWP.condT ?_ ?_; (focus (simp [go_sem, c2, w1, w2]; done)))
      | (refine AWP.condF ?_ ?_; (focus (simp [go_sem, c2, w1, w2]; done)))
      | (apply AWP.rE; (focus (simp [go_sem, c2, w1, w2]; exact ⟨rfl, rfl⟩)); try dsimp only [thn, inBlk])
      | fail)
    simp [bodyQ, thn, inBlk, resA, resV, go_sem]
    exact ⟨_, _, ⟨rfl, rfl⟩, k3.d1⟩
  · obtain ⟨x, rfl⟩ := byte_of (z := o) ho1 ho2
    have e2 : wbytes 3 v x.toNat bs = [255, 250, x] ++ esc bs ++ [255, 240] := by simp [wbytes]
    rw [e2]
    obtain ⟨W, hW⟩ : ∃ W, W = [255, 250, x] ++ esc bs ++ [255, 240] := ⟨_, rfl⟩
    have hWl : W.length = 3 + (esc bs).length + 2 := by rw [hW]; simp; omega
    rw [← hW]
    have w1 := wU8 x
    have k3 := k2.push (.row [.int .u8 255, .int .u8 250, .int .u8 x.toNat] 5 1 true false)
    have c3 := k3.b1.obj
    (repeat' first
      | refine AWP.seq ?_
      | refine AWP.block ?_
      | (refine AWP.skip ?_; try dsimp only [thn, inBlk])
      | (refine AWP.exit ?_; try simp only [thn, inBlk, if_true, reduceIte, Nat.reduceEqDiff])
      | (refine AWP.ret ?_; try dsimp only [thn, inBlk])
      | (refine AWP.condT ?_ ?_; (focus (simp [go_sem, c2, w1]; done)))
      | (refine AWP.condF ?_ ?_; (focus (simp [go_sem, c2, w1]; done)))
      | (apply AWP.rE; (focus (simp [go_sem, c2, w1]; exact ⟨rfl, rfl⟩)); try dsimp only [thn, inBlk])
      | fail)
    refine AWP.draw hmix [.n 0 [1], .n 1 [24], .n 2 [25], .n 3 [26], .n 4 [1], .n 5 [28], .w 6 [29] [1, 2, 3], .w 7 [27, 30] [], .n 8 [31]] (by kernel_rfl) ?_
    refine awpD_callR 6 (by rfl) (by rfl) (by simp [go_sem, c2, c3, w1]; exact ⟨rfl, rfl, rfl⟩) (by rfl) (by rfl) (by simp [go_sem]) (by simp [go_sem, c2, c3, w1]; exact ⟨rfl, rfl⟩) (by kernel_rfl) ?_
    refine (escaped_calls k3 (fun h q => hx h q.tail.tail) (by omega)).mono ?_
    rintro r h2 ⟨a, cap, rfl, k4⟩
    have c4 := k4.b2.obj
    have c5 := k4.b1.obj
    refine ⟨by simp [still, go_sem, c3, c4, c5, w1], ?_⟩
    obtain ⟨a2, cap2, h3, f1, k5⟩ := sub_app (E := esc bs) (x := x) k4 (by have := esc_length bs; have := List.count_le_length (a := (255 : UInt8)) (l := bs); omega)
    refine awpD_writeR 0 (by rfl) (by rfl) (by simp [go_sem, c4, w1, f1]; exact ⟨rfl, rfl, rfl⟩) (by rfl) (by rfl) (by simp [go_sem]) (by simp [go_sem, c4, w1, f1]; exact ⟨rfl, rfl⟩) (by simp [still, go_sem, c4, w1, f1]) ?_
    refine awpD_restR (by rfl) (by simp [go_sem]; exact ⟨rfl, rfl, rfl⟩) ?_; try dsimp only [thn, inBlk]
    obtain ⟨a3, cap3, h4, f2, k6⟩ := sub_end (E := esc bs) (x := x) k5 (by have := esc_length bs; have := List.count_le_length (a := (255 : UInt8)) (l := bs); omega)
    rw [← hW] at k6
    (repeat' first
      | refine AWP.seq ?_
      | refine AWP.block ?_
      | (refine AWP.skip ?_; try dsimp only [thn, inBlk])
      | (refine AWP.exit ?_; try simp only [thn, inBlk, if_true, reduceIte, Nat.reduceEqDiff])
      | (refine AWP.ret ?_; try dsimp only [thn, inBlk])
      | (refine AWP.condT ?_ ?_; (focus (simp [go_sem, f2]; done)))
      | (refine AWP.condF ?_ ?_; (focus (simp [go_sem, f2]; done)))
      | (apply AWP.rE; (focus (simp [go_sem, f2]; exact ⟨rfl, rfl⟩)); try dsimp only [thn, inBlk])
      | fail)
    simp [bodyQ, thn, inBlk, resA, resV, go_sem]
    exact ⟨a3, cap3, ⟨rfl, by omega, rfl⟩, k6.d1⟩
  · have e2 : wbytes 1 v o bs = esc bs := by simp [wbytes]
    rw [e2]
    (repeat' first
      | refine AWP.seq ?_
      | refine AWP.block ?_
      | (refine AWP.skip ?_; try dsimp only [thn, inBlk])
      | (refine AWP.exit ?_; try simp only [thn, inBlk, if_true, reduceIte, Nat.reduceEqDiff])
      | (refine AWP.ret ?_; try dsimp only [thn, inBlk])
      | (refine AWP.condT ?_ ?_; (focus (simp [go_sem, c2]; done)))
      | (refine AWP.condF ?_ ?_; (focus (simp [go_sem, c2]; done)))
      | (apply AWP.rE; (focus (simp [go_sem, c2]; exact ⟨rfl, rfl⟩)); try dsimp only [thn, inBlk])
      | fail)
    refine AWP.callE (by simp [go_sem, c2]; exact ⟨rfl, rfl, rfl, rfl, rfl⟩) (by kernel_rfl) ?_
    refine (escaped_calls k2 (fun h q => hx h q.tail) (by omega)).mono ?_
    rintro r h' ⟨a, cap, rfl, k4⟩
    refine awpL_restE (by simp [go_sem, c2]; exact ⟨rfl, rfl⟩) ?_; try dsimp only [thn, inBlk]
    (repeat' first
      | refine AWP.seq ?_
      | refine AWP.block ?_
      | (refine AWP.skip ?_; try dsimp only [thn, inBlk])
      | (refine AWP.exit ?_; try simp only [thn, inBlk, if_true, reduceIte, Nat.reduceEqDiff])
      | (refine AWP.ret ?_; try dsimp only [thn, inBlk])
      | (refine AWP.condT ?_ ?_; (focus (simp [go_sem]; done)))
      | (refine AWP.condF ?_ ?_; (focus (simp [go_sem]; done)))
      | (apply AWP.rE; (focus (simp [go_sem]; exact ⟨rfl, rfl⟩)); try dsimp only [thn, inBlk])
      | fail)
    simp [bodyQ, thn, inBlk, resA, resV, go_sem]
    exact ⟨_, _, ⟨rfl, rfl⟩, k4.d1⟩

/-! ### The document's -/
theorem refesc_calls {O : Old} {h : AHeap} {R : List Chunk} {d : Value} {bs : List UInt8} (k : Own O h R) (hx : ∀ h, Own O h R → Bytes h d bs) (hm : bs.length ≤ 1000000) :
    ACalls Tryd.prog 24 #[d] h fun r h' => ∃ a cap, r = .slice a (esc bs).length cap ∧ Own O h' (ob 5 (.slice a (esc bs).length cap) (esc bs) :: R) := by
  obtain ⟨da, dc, rfl⟩ := (hx h k).val
  refine ACalls.of_awp (args := [.slice da bs.length dc]) (n := 28) Tryd.func24 rfl rfl (by show 1 ≤ 28; omega) ?_
  have k1 : Own O (h.push (.row [] 5 1 true false)) (ob 5 (.slice (some ⟨h.next, 0, none⟩) 0 0) [] :: R) := k.fresh (e := 5) (bs := [])
  (repeat' first
    | refine AWP.seq ?_
    | refine AWP.block ?_
    | (refine AWP.skip ?_; try dsimp only [thn, inBlk])
    | (refine AWP.exit ?_; try simp only [thn, inBlk, if_true, reduceIte, Nat.reduceEqDiff])
    | (refine AWP.ret ?_; try dsimp only [thn, inBlk])
    | (refine AWP.condT ?_ ?_; (focus (simp [go_sem]; done)))
    | (refine AWP.condF ?_ ?_; (focus (simp [go_sem]; done)))
    | (apply AWP.rE; (focus (simp [go_sem]; exact ⟨rfl, rfl⟩)); try dsimp only [thn, inBlk])
    | fail)
  refine AWP.loopR [0, 3, 4] (fun m s h' => ∃ j a cap, j ≤ bs.length ∧ m = bs.length - j ∧ s = ⟨28, [(0, .slice da bs.length dc), (3, .slice a (esc (bs.take j)).length cap), (4, .int .i64 (j : Nat))]⟩ ∧
    Own O h' (ob 5 (.slice a (esc (bs.take j)).length cap) (esc (bs.take j)) :: R)) ?_ ?_
  · exact ⟨_, 0, _, _, by omega, rfl, rfl, k1⟩
  rintro r s hB ⟨j, a, cap, hj, rfl, rfl, kB⟩
  by_cases hjm : j < bs.length
  rotate_left
  · obtain rfl : j = bs.length := by omega
    rw [List.take_length] at kB
    (repeat' first
      | refine AWP.seq ?_
      | refine AWP.block ?_
      | (refine AWP.skip ?_; try dsimp only [thn, inBlk])
      | (refine AWP.exit ?_; try simp only [thn, inBlk, if_true, reduceIte, Nat.reduceEqDiff])
      | (refine AWP.ret ?_; try dsimp only [thn, inBlk])
      | (refine AWP.condT ?_ ?_; (focus (simp [go_sem]; done)))
      | (refine AWP.condF ?_ ?_; (focus (simp [go_sem]; done)))
      | (apply AWP.rE; (focus (simp [go_sem]; exact ⟨rfl, rfl⟩)); try dsimp only [thn, inBlk])
      | fail)
    simp [bodyQ, thn, inBlk, resA, resV, go_sem]
    exact ⟨a, cap, ⟨rfl, rfl⟩, kB⟩
  have hjm' : (j : Int) < bs.length := by omega
  have hxs := hx hB kB.tail
  obtain ⟨i0, o0, r0, e0, z0, ti0, ro0, p0, q0, g0⟩ := hxs.at (P := Tryd.prog) (t := 22) Tryd.underlying22 tsz5 (j := j) hjm (kd := .i64)
  have hel := esc_length (bs.take j)
  have hcl := List.count_le_length (a := (255 : UInt8)) (l := bs.take j)
  have htl : (bs.take j).length = j := by simp; omega
  obtain ⟨a2, cap2, h2, f1, k2⟩ := Own.appB1 (P := Tryd.prog) (t := 22) (xt := 22) (c := bs[j]) Tryd.underlying22 tsz5 tby5 tz5 nI22 kB rfl (by omega)
  have het : esc (bs.take (j + 1)) = esc (bs.take j) ++ (if bs[j] = 255 then [255, 255] else [bs[j]]) := by
    rw [List.take_succ_eq_append_getElem hjm, esc_append]; simp [esc]
  have w8 : IntKind.i64.wrap ((j : Int) + 1) = ((j + 1 : Nat) : Int) := by rw [wI64 (by omega) (by omega)]; omega
  obtain ⟨i1, o1, r1, e1, z1, ti1, ro1, p1, q1, g1⟩ := (hx h2 k2.tail).at (P := Tryd.prog) (t := 22) Tryd.underlying22 tsz5 (j := j) hjm (kd := .i64)
  cases p0.symm.trans p1
  obtain ⟨c, hcc⟩ : ∃ c, c = bs[j] := ⟨_, rfl⟩
  simp only [← hcc] at f1 k2 g0 g1 het
  generalize hE : esc (bs.take j) = E at *
  by_cases hc : c = 255
  · have hc' : ((c.toNat : Int) == 255) = true := by rw [hc]; rfl
    rw [if_pos hc] at het
    have hel2 : (E ++ [c]).length = E.length + 1 := by simp
    obtain ⟨a3, cap3, h3, f2, k3⟩ := Own.appB1 (P := Tryd.prog) (t := 22) (xt := 22) (c := 255) (bs := E ++ [c]) (v := .slice a2 (E.length + 1) cap2) Tryd.underlying22 tsz5 tby5 tz5 nI22 k2 rfl (by rw [hel2]; omega)
    rw [hel2, show ((255 : UInt8).toNat : Int) = 255 from rfl] at f2
    rw [hel2] at k3
    (repeat' first
      | refine AWP.seq ?_
      | refine AWP.block ?_
      | (refine AWP.skip ?_; try dsimp only [thn, inBlk])
      | (refine AWP.exit ?_; try simp only [thn, inBlk, if_true, reduceIte, Nat.reduceEqDiff])
      | (refine AWP.ret ?_; try dsimp only [thn, inBlk])
      | (refine AWP.condT ?_ ?_; (focus (simp [go_sem, hjm', p0, q0, g0, f1, q1, g1, f2, w8, hc']; done)))
      | (refine AWP.condF ?_ ?_; (focus (simp [go_sem, hjm', p0, q0, g0, f1, q1, g1, f2, w8, hc']; done)))
      | (apply AWP.rE; (focus (simp [go_sem, hjm', p0, q0, g0, f1, q1, g1, f2, w8, hc']; exact ⟨rfl, rfl⟩)); try dsimp only [thn, inBlk])
      | fail)
    refine ⟨bs.length - (j + 1), by omega, j + 1, a3, cap3, by omega, rfl, ?_, ?_⟩
    · rw [het, List.length_append]; rfl
    · rw [het, List.length_append, hc] at *; simpa using k3
  · rw [if_neg hc] at het
    have hc' : ((c.toNat : Int) == 255) = false := by
      have := eqB c 255; rw [show ((255 : UInt8).toNat : Int) = 255 from rfl] at this; rw [this]; simpa using hc
    (repeat' first
      | refine AWP.seq ?_
      | refine AWP.block ?_
      | (refine AWP.skip ?_; try dsimp only [thn, inBlk])
      | (refine AWP.exit ?_; try simp only [thn, inBlk, if_true, reduceIte, Nat.reduceEqDiff])
      | (refine AWP.ret ?_; try dsimp only [thn, inBlk])
      | (refine AWP.condT ?_ ?_; (focus (simp [go_sem, hjm', p0, q0, g0, f1, q1, g1, w8, hc']; done)))
      | (refine AWP.condF ?_ ?_; (focus (simp [go_sem, hjm', p0, q0, g0, f1, q1, g1, w8, hc']; done)))
      | (apply AWP.rE; (focus (simp [go_sem, hjm', p0, q0, g0, f1, q1, g1, w8, hc']; exact ⟨rfl, rfl⟩)); try dsimp only [thn, inBlk])
      | fail)
    refine ⟨bs.length - (j + 1), by omega, j + 1, a2, cap2, by omega, rfl, ?_, ?_⟩
    · rw [het, List.length_append]; rfl
    · rw [het, List.length_append]; exact k2
end L22
