import Derived.Test.YtfdkdkhmblhehaaL01r
import Derived.Test.YtfdkdkhmblhehaaAbGrecs
open Go Ab Go.Proofs
namespace L01
set_option autoImplicit false
set_option linter.unusedSimpArgs false
set_option linter.unusedVariables false

/-! ### Texts in a row -/
abbrev PA := Option Addr × Nat
def row2 (b : List UInt8) (p : PA) : List Value := [.slice p.1 b.length p.2]
def sub2 (b : List UInt8) (p : PA) : Chunk := ob 5 (.slice p.1 b.length p.2) b
abbrev txs (v : Value) (bss : List (List UInt8)) : Chunk := grecs row2 sub2 24 1 v bss
def vs (fs : List F) (ac : List PA) : List Value := List.zipWith (fun (f : F) (p : PA) => Value.slice p.1 f.2.length p.2) fs ac
theorem tx_cells : ∀ (fs : List F) (ac : List PA), (gcells row2 (fs.map Prod.snd) ac).flatten = vs fs ac
  | [], _ => rfl
  | f :: fs, [] => rfl
  | f :: fs, p :: ac => by
    have := tx_cells fs ac
    simp only [gcells, vs] at this ⊢
    simp [row2, this]
theorem tx_subs (fs : List F) (ac : List PA) : gsubs sub2 (fs.map Prod.snd) ac = rbods 5 fs ac := by
  simp only [gsubs, rbods, List.zipWith_map_left]; rfl
theorem txs_pcs {O : Old} {h : AHeap} {R : List Chunk} {v : Value} {bss : List (List UInt8)} (k : Own O h (txs v bss :: R)) : Pcs h v bss := by
  obtain ⟨ws, hw, k⟩ := grecs_iff.1 k
  refine ⟨_, k.os_sl, fun j hj => ?_⟩
  have hjw : j < ws.length := by omega
  have hb : (gsubs sub2 bss ws)[j]? = some (ob 5 (.slice ws[j].1 bss[j].length ws[j].2) bss[j]) := by simp [gsubs, List.getElem?_zipWith, List.getElem?_eq_getElem hj, List.getElem?_eq_getElem hjw, sub2]
  refine ⟨ws[j].1, ws[j].2, ?_, (k.tail.mem hb).ob_bytes⟩
  have hall : ∀ y ∈ gcells row2 bss ws, y.length = 1 := gcells_all (fun _ _ => rfl)
  have := flat_get (l := gcells row2 bss ws) (j := j) (f := 0) (sz := 1) hall (by omega)
  rw [Nat.mul_one, Nat.add_zero] at this
  rw [this]
  simp [gcells, List.getElem?_zipWith, List.getElem?_eq_getElem hj, List.getElem?_eq_getElem hjw, row2]
theorem fcell_at {h : AHeap} {v : Value} {fs : List F} {ac : List PA} (ha : ac.length = fs.length) (sl : Sl 2 h v fs.length (rcells pre fs ac).flatten) {j : Nat} (hj : j < fs.length) (hja : j < ac.length) : ∃ i off c e' sz' ti ro, indexAddrP Try.prog 29 v (.int .i64 j) = some (.pointer (some ⟨i, off, none⟩)) ∧ h.obj i = some (.row c e' sz' ti ro) ∧ off + 2 ≤ c.length ∧
    (c.drop off).take 2 = [.int .i64 fs[j].1, .slice ac[j].1 fs[j].2.length ac[j].2] ∧ c[off]? = some (.int .i64 fs[j].1) ∧ c[off + 1]? = some (.slice ac[j].1 fs[j].2.length ac[j].2) := by
  have hall : ∀ y ∈ rcells pre fs ac, y.length = 2 := rcells_all (pre := pre) (sz := 2) (fun _ => rfl) ac
  obtain ⟨i, off, c, e', sz', ti, ro, q1, q2, q3, q4, q5⟩ := sl.record (P := Try.prog) (t := 29) Try.underlying29 tsz46 hall (rcells_length ha) hj (kd := .i64)
  have e : (rcells pre fs ac)[j]'(by rw [rcells_length ha]; exact hj) = [.int .i64 fs[j].1, .slice ac[j].1 fs[j].2.length ac[j].2] := by simp [rcells, rec1, pre]
  rw [e] at q4 q5
  exact ⟨i, off, c, e', sz', ti, ro, q1, q2, q3, q4, q5 0 _ rfl, q5 1 _ rfl⟩
theorem vs_take {fs : List F} {ac : List PA} {j : Nat} (hj : j < fs.length) (hja : j < ac.length) : (vs fs ac).take (j + 1) = (vs fs ac).take j ++ [.slice ac[j].1 fs[j].2.length ac[j].2] := by
  have hl : j < (vs fs ac).length := by simp [vs]; omega
  rw [List.take_succ_eq_append_getElem hl]; simp [vs]
theorem vs_len {fs : List F} {ac : List PA} (ha : ac.length = fs.length) : (vs fs ac).length = fs.length := by simp [vs, ha]

/-- What the values are. -/
def valR (bs : List UInt8) (zs : List Int) : List (List UInt8) × Int :=
  if (T1.splitGo [] bs).2 ≠ 0 then ([], (T1.splitGo [] bs).2) else if (T1.splitGo [] bs).1.map Prod.fst = zs then ((T1.splitGo [] bs).1.map Prod.snd, 0) else ([], 21)
theorem splitGo_len (bs : List UInt8) : ∀ acc, (T1.splitGo acc bs).1.length ≤ acc.length + bs.length := by
  revert bs
  refine T1.splitGo_ind ?_ ?_ ?_ ?_ ?_ ?_
  · intro acc; rw [T1.splitGo]; simp
  · intro rest acc; rw [T1.splitGo_zero]; simp
  · intro b hb acc; rw [T1.splitGo_one acc hb]; simp
  · intro b c hb acc; rw [T1.splitGo_two acc hb]; simp
  · intro b c d body hb hl acc; rw [T1.splitGo_big acc hb hl]; simp
  · intro b c d body hb hl ih acc
    rw [T1.splitGo_step acc hb hl]
    have := ih (acc ++ [((b.toNat : Int), body.take (256 * c.toNat + d.toNat))])
    simp at this ⊢; omega

set_option maxHeartbeats 8000000 in
theorem values_calls {O : Old} {h : AHeap} {R : List Chunk} {v w : Value} {bs : List UInt8} {zs : List Int} (k : Own O h R) (hx : ∀ h, Own O h R → Bytes h v bs) (hz : ∀ h, Own O h R → Sl 1 h w zs.length (zs.map (.int .i64))) (hm : bs.length ≤ 1000000) (hl2 : zs.length ≤ 1000000) :
    ACalls Try.prog 23 #[v, w] h fun r h' => ∃ a c, r = .tuple #[.slice a (valR bs zs).1.length c, .int .i64 (valR bs zs).2] ∧ Own O h' (txs (.slice a (valR bs zs).1.length c) (valR bs zs).1 :: R) := by
  obtain ⟨va, vc, rfl⟩ := (hx h k).val
  obtain ⟨wa, wc, rfl⟩ := (hz h k).val
  refine ACalls.of_awp (args := [.slice va bs.length vc, .slice wa zs.length wc]) (n := 34) Try.func23 rfl rfl (by show 2 ≤ 34; omega) ?_
  (repeat' first
    | refine AWP.seq ?_
    | refine AWP.block ?_
    | (refine AWP.skip ?_; try dsimp only [thn, inBlk])
    | (refine AWP.exit ?_; try simp only [thn, inBlk, if_true, reduceIte, Nat.reduceEqDiff])
    | (refine AWP.ret ?_; try dsimp only [thn, inBlk])
    | (refine AWP.condT ?_ ?_; (focus (simp [go_sem]; done)))
    | (refine AWP.condF ?_ ?_; (focus (simp [go_sem]; done)))
    | (apply AWP.rE; (focus (simp [go_sem]; exact ⟨rfl, rfl⟩)); try dsimp only [thn, inBlk])
    | fail)
  refine AWP.callE (by simp [go_sem]; exact ⟨rfl, rfl, rfl, rfl, rfl⟩) (by kernel_rfl) ?_
  refine (split_calls k hx hm).mono ?_
  rintro r h1 ⟨fa, fc, rfl, k1⟩
  have hsl := splitGo_len bs []
  unfold valR
  generalize hE : T1.splitGo [] bs = E at *
  obtain ⟨fs, er⟩ := E
  simp only at k1 hsl ⊢
  by_cases her : er = 0
  rotate_left
  · have her' : (er != 0) = true := by simpa using her
    rw [if_pos her]
    refine awpL_restE (by simp [go_sem]; exact ⟨rfl, rfl⟩) ?_; try dsimp only [thn, inBlk]
    (repeat' first
      | refine AWP.seq ?_
      | refine AWP.block ?_
      | (refine AWP.skip ?_; try dsimp only [thn, inBlk])
      | (refine AWP.exit ?_; try simp only [thn, inBlk, if_true, reduceIte, Nat.reduceEqDiff])
      | (refine AWP.ret ?_; try dsimp only [thn, inBlk])
      | (refine AWP.condT ?_ ?_; (focus (simp [go_sem, her']; done)))
      | (refine AWP.condF ?_ ?_; (focus (simp [go_sem, her']; done)))
      | (apply AWP.rE; (focus (simp [go_sem, her']; exact ⟨rfl, rfl⟩)); try dsimp only [thn, inBlk])
      | fail)
    simp [bodyQ, thn, inBlk, resA, resV, go_sem]
    exact ⟨_, _, ⟨rfl, rfl⟩, k1.tail.grecs_nil 24 1⟩
  subst her
  rw [if_neg (by simp)]
  refine awpL_restE (by simp [go_sem]; exact ⟨rfl, rfl⟩) ?_; try dsimp only [thn, inBlk]
  (repeat' first
    | refine AWP.seq ?_
    | refine AWP.block ?_
    | (refine AWP.skip ?_; try dsimp only [thn, inBlk])
    | (refine AWP.exit ?_; try simp only [thn, inBlk, if_true, reduceIte, Nat.reduceEqDiff])
    | (refine AWP.ret ?_; try dsimp only [thn, inBlk])
    | (refine AWP.condT ?_ ?_; (focus (simp [go_sem]; done)))
    | (refine AWP.condF ?_ ?_; (focus (simp [go_sem]; done)))
    | (apply AWP.rE; (focus (simp [go_sem]; exact ⟨rfl, rfl⟩)); try dsimp only [thn, inBlk])
    | fail)
  refine AWP.callE (by simp [go_sem]; exact ⟨rfl, rfl, rfl, rfl, rfl⟩) (by kernel_rfl) ?_
  refine (equal_calls k1 (fun _ o => o.brecs_read) (fun _ o => hz _ o.tail) (by simp at hsl; omega) hl2).mono ?_
  rintro r h2 ⟨rfl, k2⟩
  by_cases ht : fs.map Prod.fst = zs
  rotate_left
  · rw [decide_eq_false ht, if_neg ht]
    refine awpL_restE (by simp [go_sem]; exact ⟨rfl, rfl⟩) ?_; try dsimp only [thn, inBlk]
    (repeat' first
      | refine AWP.seq ?_
      | refine AWP.block ?_
      | (refine AWP.skip ?_; try dsimp only [thn, inBlk])
      | (refine AWP.exit ?_; try simp only [thn, inBlk, if_true, reduceIte, Nat.reduceEqDiff])
      | (refine AWP.ret ?_; try dsimp only [thn, inBlk])
      | (refine AWP.condT ?_ ?_; (focus (simp [go_sem]; done)))
      | (refine AWP.condF ?_ ?_; (focus (simp [go_sem]; done)))
      | (apply AWP.rE; (focus (simp [go_sem]; exact ⟨rfl, rfl⟩)); try dsimp only [thn, inBlk])
      | fail)
    simp [bodyQ, thn, inBlk, resA, resV, go_sem]
    exact ⟨_, _, ⟨rfl, rfl⟩, k2.tail.grecs_nil 24 1⟩
  rw [decide_eq_true ht, if_pos ht]
  obtain ⟨ac, ha, k3⟩ := brecs_iff.1 k2
  refine awpL_restE (by simp [go_sem]; exact ⟨rfl, rfl⟩) ?_; try dsimp only [thn, inBlk]
  (repeat' first
    | refine AWP.seq ?_
    | refine AWP.block ?_
    | (refine AWP.skip ?_; try dsimp only [thn, inBlk])
    | (refine AWP.exit ?_; try simp only [thn, inBlk, if_true, reduceIte, Nat.reduceEqDiff])
    | (refine AWP.ret ?_; try dsimp only [thn, inBlk])
    | (refine AWP.condT ?_ ?_; (focus (simp [go_sem]; done)))
    | (refine AWP.condF ?_ ?_; (focus (simp [go_sem]; done)))
    | (apply AWP.rE; (focus (simp [go_sem]; exact ⟨rfl, rfl⟩)); try dsimp only [thn, inBlk])
    | fail)
  refine AWP.loopR [4, 21, 22, 23] (fun m s h' => ∃ (j : Nat) (a : Option Addr) (c : Nat), j ≤ fs.length ∧ m = fs.length - j ∧ s = ⟨34, [(4, .slice a j c), (21, .slice fa fs.length fc), (22, .int .i64 fs.length), (23, .int .i64 j)]⟩ ∧
    Own O h' (os 24 1 (.slice a j c) j ((vs fs ac).take j) :: os 46 2 (.slice fa fs.length fc) fs.length (rcells pre fs ac).flatten :: (rbods 5 fs ac ++ R))) ?_ ?_
  · exact ⟨_, 0, none, 0, by omega, rfl, by simp [go_sem], k3.nil 24 1⟩
  rintro m s h' ⟨j, a, c, hj, rfl, rfl, kt⟩
  by_cases hj2 : j < fs.length
  rotate_left
  · have hj3 : ¬ (j : Int) < fs.length := by omega
    obtain rfl : j = fs.length := by omega
    rw [List.take_of_length_le (by rw [vs_len ha]; omega)] at kt
    (repeat' first
      | refine AWP.seq ?_
      | refine AWP.block ?_
      | (refine AWP.skip ?_; try dsimp only [thn, inBlk])
      | (refine AWP.exit ?_; try simp only [thn, inBlk, if_true, reduceIte, Nat.reduceEqDiff])
      | (refine AWP.ret ?_; try dsimp only [thn, inBlk])
      | (refine AWP.condT ?_ ?_; (focus (simp [go_sem, hj3]; done)))
      | (refine AWP.condF ?_ ?_; (focus (simp [go_sem, hj3]; done)))
      | (apply AWP.rE; (focus (simp [go_sem, hj3]; exact ⟨rfl, rfl⟩)); try dsimp only [thn, inBlk])
      | fail)
    simp [bodyQ, thn, inBlk, resA, resV, go_sem]
    refine ⟨_, _, ⟨rfl, rfl⟩, grecs_iff.2 ⟨ac, by simp [ha], ?_⟩⟩
    rw [tx_cells, tx_subs, List.length_map]
    exact kt.d1
  have hj3 : (j : Int) < fs.length := by omega
  have hja : j < ac.length := by omega
  have wj : IntKind.i64.wrap ((j : Int) + 1) = ((j + 1 : Nat) : Int) := by rw [wI64 (by omega) (by simp at hsl; omega)]; omega
  obtain ⟨bi, bo, bc, be, bz, bt, br, q1, q2, q3, q4, q5, q6⟩ := fcell_at ha kt.b1.os_sl hj2 hja
  have hvt := vs_take hj2 hja
  have k4 := kt.push (.row [.int .i64 fs[j].1, .slice ac[j].1 fs[j].2.length ac[j].2] 46 2 true false)
  obtain ⟨a5, c5, h5, e5, k5⟩ := Own.appN (P := Try.prog) (t := 49) (xt := 49) (m := 1) (xs := [.slice ac[j].1 fs[j].2.length ac[j].2]) (i := h'.next + 1) Try.underlying49 tsz24 tby24 tz24 nI49 (by omega) (by omega) rfl (k4.b1 : Own O _ (os 24 1 (.slice a j c) j ((vs fs ac).take j) :: _)) rfl rfl rfl (by simp at hsl; omega)
  (repeat' first
    | refine AWP.seq ?_
    | refine AWP.block ?_
    | (refine AWP.skip ?_; try dsimp only [thn, inBlk])
    | (refine AWP.exit ?_; try simp only [thn, inBlk, if_true, reduceIte, Nat.reduceEqDiff])
    | (refine AWP.ret ?_; try dsimp only [thn, inBlk])
    | (refine AWP.condT ?_ ?_; (focus (simp [go_sem, hj2, hj3, q1, q2, q3, q4, e5, wj]; done)))
    | (refine AWP.condF ?_ ?_; (focus (simp [go_sem, hj2, hj3, q1, q2, q3, q4, e5, wj]; done)))
    | (apply AWP.rE; (focus (simp [go_sem, hj2, hj3, q1, q2, q3, q4, e5, wj]; exact ⟨rfl, rfl⟩)); try dsimp only [thn, inBlk])
    | fail)
  refine ⟨fs.length - (j + 1), by omega, j + 1, a5, c5, by omega, rfl, by simp [go_sem], ?_⟩
  rw [hvt]
  exact k5.d1
end L01
