import Derived.Test.YtjjocbijmhmdkaaL18za
open Go Ab Go.Proofs
namespace L18
set_option autoImplicit false
set_option linter.unusedSimpArgs false
set_option linter.unusedVariables false

/-! ### The document's Idle: a copy's Out -/
theorem d_ok (D : List Dc) (ps : List PP) : (dcells D ps).all okCell = true := gcells_ok fun x w => by
  simp only [dcell, List.all_cons, okCell_slice, List.all_nil]; rfl
theorem d_okAll (D : List Dc) (ps : List PP) : okAll (dcells D ps) = true := by rw [okAll_eq]; exact d_ok D ps
theorem d_const : (dcells (dzj 0) zp).all constCell = true := rfl
theorem d_setL {D D2 : List Dc} {ps ps2 : List PP} (k : Fr4 D ps) (k2 : Fr4 D2 ps2) : setL (dcells D ps) 0 (dcells D2 ps2) = dcells D2 ps2 := by
  simpa using setL_full (dcells D2 ps2) [] (dcells D ps) (by rw [d_len k, d_len k2])
theorem d_take {D : List Dc} {ps : List PP} (k : Fr4 D ps) : (dcells D ps).take 36 = dcells D ps := List.take_of_length_le (by rw [d_len k]; omega)
theorem allocD (id : Nat) : allocA Try.prog id 79 = some (.pointer (some ⟨id, 0, none⟩), .row (dcells (dzj 0) zp) 79 36 true false) := by
  have h1 : constOk (.agg (dcells (dzj 0) zp).toArray) = true := by simp only [constOk]; exact d_const
  have h2 : (Value.agg (dcells (dzj 0) zp).toArray).known = true := rfl
  have h3 : (Value.agg (dcells (dzj 0) zp).toArray).cells.toList = dcells (dzj 0) zp := by simp [Value.cells]
  have h4 : (Value.agg (dcells (dzj 0) zp).toArray).cells.size = 36 := by simp only [Value.cells, List.size_toArray]; exact d_len (dzfour 0)
  simp only [allocA, tzD, h1, if_true, boxA, h2, h3, h4]
attribute [local irreducible] dcells
theorem dsub_w {O : Old} {h : AHeap} {R : List Chunk} {D : List Dc} {ps : List PP} (k4 : Fr4 D ps) (k : Own O h (gsubs dsub D ps ++ R)) : ∀ c, c < 4 → Bytes h (.slice (qg ps c).1.1 (dg D c).w.length (qg ps c).1.2) (dg D c).w := fun c hc => by
  have k2 := k.mem (ds_get k4 hc)
  exact (Own.star_iff.1 k2).ob_bytes
theorem didle_calls {O : Old} {h : AHeap} {R : List Chunk} {b : Nat} {D : List Dc} (k : Own O h (dmux b D :: R)) (di : DI D) (hW : ∀ c, (dg D c).w.length ≤ 1000000000) :
    ACalls Try.prog 26 #[ptr b] h fun r h' => r = .bool (decide ((doutN D 4).1.length = 0)) ∧ Own O h' (dmux b D :: R) := by
  refine ACalls.of_awp (args := [ptr b]) (n := 10) Try.func26 rfl rfl (by show 1 ≤ 10; omega) ?_
  obtain ⟨ps, k4, kt⟩ := dmux_iff.1 k
  have c1 := kt.obj
  have fl := d_len k4
  have l0 := d_len (dzfour 0)
  have dt := d_take k4
  have dsl := d_setL (dzfour 0) k4
  have dok := d_okAll D ps
  have k1 := kt.push (drow (dzj 0) zp)
  have c2 := k1.obj
  have k2 := kt.push (drow D ps)
  (repeat' first
    | refine AWP.seq ?_
    | refine AWP.block ?_
    | (refine AWP.skip ?_; try dsimp only [thn, inBlk])
    | (refine AWP.exit ?_; try simp only [thn, inBlk, if_true, reduceIte, Nat.reduceEqDiff])
    | (refine AWP.ret ?_; try dsimp only [thn, inBlk])
    | (refine AWP.condT ?_ ?_; (focus (simp [go_sem, c1, fl, l0, dt, dsl, dok, ↓allocD, c2]; done)))
    | (refine AWP.condF ?_ ?_; (focus (simp [go_sem, c1, fl, l0, dt, dsl, dok, ↓allocD, c2]; done)))
    | (apply AWP.rE; (focus (simp [go_sem, c1, fl, l0, dt, dsl, dok, ↓allocD, c2]; exact ⟨rfl, rfl⟩)); try dsimp only [thn, inBlk])
    | fail)
  refine AWP.callE (by simp [go_sem]; exact ⟨rfl, rfl, rfl, rfl, rfl⟩) (by kernel_rfl) ?_
  refine (dout_calls k2 k4 di hW (fun hh kk => dsub_w k4 kk.tail)).mono ?_
  rintro r h2 ⟨a, cap, rfl, k3⟩
  refine awpL_restE (by simp [go_sem]; exact ⟨rfl, rfl⟩) ?_; try dsimp only [thn, inBlk]
  (repeat' first
    | refine AWP.seq ?_
    | refine AWP.block ?_
    | (refine AWP.skip ?_; try dsimp only [thn, inBlk])
    | (refine AWP.exit ?_; try simp only [thn, inBlk, if_true, reduceIte, Nat.reduceEqDiff])
    | (refine AWP.ret ?_; try dsimp only [thn, inBlk])
    | (refine AWP.condT ?_ ?_; (focus (simp [go_sem]; done)))
    | (refine AWP.condF ?_ ?_; (focus (simp [go_sem]; done)))
    | (apply AWP.rE; (focus (simp [go_sem]; exact ⟨rfl, rfl⟩)); try dsimp only [thn, inBlk])
    | fail)
  have e : (((doutN D 4).1.length : Int) == 0) = decide ((doutN D 4).1.length = 0) := by
    rw [Bool.eq_iff_iff]; simp
  simp [bodyQ, thn, inBlk, resA, resV, go_sem, e]
  exact dmux_iff.2 ⟨ps, k4, k3.tail.tail⟩
theorem doutN_c {D : List Dc} (c : Nat) : ∀ j, (dg (doutN D j).2 c).c = (dg D c).c
  | 0 => rfl
  | j + 1 => by
    simp only [doutN, dout1]
    by_cases e : c = j
    · subst e
      by_cases hl : c < (doutN D c).2.length
      · rw [dg_set hl]; exact doutN_c c c
      · rw [List.set_eq_of_length_le (by omega)]; exact doutN_c c c
    · rw [dg_ne e]; exact doutN_c c j
theorem ds_eq {D D2 : List Dc} {ps : List PP} (h1 : Fr4 D ps) (h2 : D2.length = 4) (hw : ∀ c, (dg D2 c).w = (dg D c).w) (hc : ∀ c, (dg D2 c).c = (dg D c).c) : gsubs dsub D2 ps = gsubs dsub D ps := by
  have k2 : Fr4 D2 ps := ⟨h2, h1.p⟩
  apply List.ext_getElem?
  intro m
  by_cases hm : m < 4
  · rw [ds_get k2 hm, ds_get h1 hm]
    simp only [dsub, hw, hc]
  · rw [List.getElem?_eq_none (by rw [gsubs_length (by rw [k2.p, k2.d]), k2.d]; omega), List.getElem?_eq_none (by rw [gsubs_length (by rw [h1.p, h1.d]), h1.d]; omega)]
theorem dmout_calls {O : Old} {h : AHeap} {R : List Chunk} {b : Nat} {D : List Dc} (k : Own O h (dmux b D :: R)) (di : DI D) (hW : ∀ c, (dg D c).w.length ≤ 1000000000) :
    ACalls Try.prog 23 #[ptr b] h fun r h' => ∃ a cap, r = .slice a (doutN D 4).1.length cap ∧ Own O h' (frs (.slice a (doutN D 4).1.length cap) (doutN D 4).1 :: dmux b (doutN D 4).2 :: R) := by
  obtain ⟨ps, k4, kt⟩ := dmux_iff.1 k
  refine (dout_calls kt k4 di hW (fun hh kk => dsub_w k4 kk)).mono ?_
  rintro r h2 ⟨a, cap, rfl, k3⟩
  have hds := ds_eq k4 (doutN_pr di 4 (by omega)).2.l (fun c => doutN_w c 4) (fun c => doutN_c c 4)
  refine ⟨a, cap, rfl, ?_⟩
  have k5 := k3.b1
  have kf : Own O h2 (cell b (drow (doutN D 4).2 ps) :: (gsubs dsub D ps ++ (frs (.slice a (doutN D 4).1.length cap) (doutN D 4).1 :: R))) := k5.perm ((List.perm_middle (l₁ := gsubs dsub D ps)).symm.cons _)
  rw [← hds] at kf
  exact (dmux_iff.2 ⟨ps, ⟨(doutN_pr di 4 (by omega)).2.l, k4.p⟩, kf⟩).b1
end L18
