import Derived.Test.YtfdkdkhmblhehaaL01T
import Derived.Test.YtfdkdkhmblhehaaL01b
import Derived.Test.YtfdkdkhmblhehaaL01f
import Derived.Test.YtfdkdkhmblhehaaL01g
import Derived.Test.YtfdkdkhmblhehaaAbRecs2
import Derived.Test.YtfdkdkhmblhehaaAbWalk3
open Go Ab Go.Proofs
namespace L01
set_option autoImplicit false
set_option linter.unusedSimpArgs false
set_option linter.unusedVariables false

/-! ### Texts of session 1, in the words of Own -/
theorem mono_wf {P : Program} {f : FuncId} {args : Array Value} {h : AHeap} {Q Q' : Value → AHeap → Prop} (k : ACalls P f args h Q) (hq : ∀ v h', (∀ i, h'.next ≤ i → h'.obj i = none) → Q v h' → Q' v h') : ACalls P f args h Q' :=
  fun M w cargs r va => (k M w cargs r va).mono fun _ _ ⟨v, vc, M', h', e, q, vr, r', p⟩ => ⟨v, vc, M', h', e, hq _ _ r'.bnd q, vr, r', p⟩
abbrev F := Int × List UInt8
abbrev pre (t : Int) : List Value := [.int .i64 t]
abbrev Fs (h : AHeap) (v : Value) (fs : List F) : Prop := BR pre 2 h v fs
theorem Fs.fields {h : AHeap} {v : Value} {fs : List F} (k : Fs h v fs) : T1.Fields h v fs := by
  obtain ⟨ac, ha, sl, hb⟩ := k
  refine ⟨_, sl, fun j hj => ?_⟩
  have hja : j < ac.length := by omega
  have hall : ∀ y ∈ rcells pre fs ac, y.length = 2 := rcells_all (pre := pre) (sz := 2) (fun _ => rfl) ac
  refine ⟨.slice ac[j].1 fs[j].2.length ac[j].2, ?_, ?_, hb j _ _ (List.getElem?_eq_getElem hj) (List.getElem?_eq_getElem hja)⟩
  · have := flat_get (l := rcells pre fs ac) (j := j) (f := 0) (sz := 2) hall (by omega)
    rw [Nat.add_zero] at this
    rw [this]
    simp [rcells, List.getElem?_zipWith, List.getElem?_eq_getElem hj, List.getElem?_eq_getElem hja, rec1, pre]
  · rw [flat_get (l := rcells pre fs ac) (j := j) (f := 1) (sz := 2) hall (by omega)]
    simp [rcells, List.getElem?_zipWith, List.getElem?_eq_getElem hj, List.getElem?_eq_getElem hja, rec1, pre]
abbrev fch (v : Value) (fs : List F) : Chunk := brecs pre 46 2 5 v fs

def tg (fs : List F) : Nat := (fs.map fun f => f.2.length + 10).sum

set_option maxHeartbeats 4000000 in
theorem great_calls {O : Old} {h : AHeap} {R : List Chunk} {v : Value} {fs : List F} (k : Own O h R) (hx : ∀ h, Own O h R → Fs h v fs) (hl : fs.length ≤ 9223372036854775807) :
    ACalls Try.prog 15 #[v] h fun r h' => ∃ g, r = .bool g ∧ (g = false → tg fs ≤ 200000) ∧ Own O h' R := by
  obtain ⟨va, vc, rfl⟩ := (hx h k).val
  refine ACalls.of_awp (args := [.slice va fs.length vc]) (n := 33) Try.func15 rfl rfl (by show 1 ≤ 33; omega) ?_
  (repeat' first
    | refine AWP.seq ?_
    | refine AWP.block ?_
    | (refine AWP.skip ?_; try dsimp only [thn, inBlk])
    | (refine AWP.exit ?_; try simp only [thn, inBlk, if_true, reduceIte, Nat.reduceEqDiff])
    | (refine AWP.ret ?_; try dsimp only [thn, inBlk])
    | (refine AWP.condT ?_ ?_; (focus (simp [go_sem]; done)))
    | (refine AWP.condF ?_ ?_; (focus (simp [go_sem]; done)))
    | (apply AWP.rE; (focus (simp [go_sem]; exact ⟨rfl, rfl⟩)); try dsimp only [thn, inBlk])
    | fail)
  refine AWP.loopR [0, 3, 4] (fun m s' h' => ∃ (j : Nat), j ≤ fs.length ∧ m = fs.length - j ∧ tg (fs.take j) ≤ 270010 ∧ s' = ⟨33, [(0, .slice va fs.length vc), (3, .int .i64 (tg (fs.take j))), (4, .int .i64 j)]⟩ ∧ h' = h) ?_ ?_
  · exact ⟨_, 0, by omega, rfl, by simp [tg], by simp [go_sem, tg], rfl⟩
  rintro m s' h' ⟨j, hj, rfl, ht, rfl, rfl⟩
  by_cases hj2 : j < fs.length
  rotate_left
  · have hj3 : ¬ (j : Int) < fs.length := by omega
    obtain rfl : j = fs.length := by omega
    rw [List.take_length] at ht ⊢
    by_cases hg : 200000 < tg fs
    · have hg' : (200000 : Int) < tg fs := by omega
      (repeat' first
        | refine AWP.seq ?_
        | refine AWP.block ?_
        | (refine AWP.skip ?_; try dsimp only [thn, inBlk])
        | (refine AWP.exit ?_; try simp only [thn, inBlk, if_true, reduceIte, Nat.reduceEqDiff])
        | (refine AWP.ret ?_; try dsimp only [thn, inBlk])
        | (refine AWP.condT ?_ ?_; (focus (simp [go_sem, hj3, hg, hg']; done)))
        | (refine AWP.condF ?_ ?_; (focus (simp [go_sem, hj3, hg, hg']; done)))
        | (apply AWP.rE; (focus (simp [go_sem, hj3, hg, hg']; exact ⟨rfl, rfl⟩)); try dsimp only [thn, inBlk])
        | fail)
      simp [bodyQ, thn, inBlk, resA, resV, go_sem]
      first | exact k | exact ⟨by omega, k⟩
    · have hg' : ¬ (200000 : Int) < tg fs := by omega
      (repeat' first
        | refine AWP.seq ?_
        | refine AWP.block ?_
        | (refine AWP.skip ?_; try dsimp only [thn, inBlk])
        | (refine AWP.exit ?_; try simp only [thn, inBlk, if_true, reduceIte, Nat.reduceEqDiff])
        | (refine AWP.ret ?_; try dsimp only [thn, inBlk])
        | (refine AWP.condT ?_ ?_; (focus (simp [go_sem, hj3, hg, hg']; done)))
        | (refine AWP.condF ?_ ?_; (focus (simp [go_sem, hj3, hg, hg']; done)))
        | (apply AWP.rE; (focus (simp [go_sem, hj3, hg, hg']; exact ⟨rfl, rfl⟩)); try dsimp only [thn, inBlk])
        | fail)
      simp [bodyQ, thn, inBlk, resA, resV, go_sem]
      first | exact k | exact ⟨by omega, k⟩
  have hj3 : (j : Int) < fs.length := by omega
  have wj : IntKind.i64.wrap ((j : Int) + 1) = ((j + 1 : Nat) : Int) := by rw [wI64 (by omega) (by omega)]; omega
  obtain ⟨bi, bo, bc, be, bz, bt, br, a, cap, q1, q2, q3, q4, q5, q6⟩ := (hx _ k).at (P := Try.prog) (t := 29) (fun _ => rfl) Try.underlying29 tsz46 hj2 (kd := .i64)
  have q7 := q5 1 _ rfl
  by_cases hb : 70000 < fs[j].2.length
  · have hb' : (70000 : Int) < fs[j].2.length := by omega
    (repeat' first
      | refine AWP.seq ?_
      | refine AWP.block ?_
      | (refine AWP.skip ?_; try dsimp only [thn, inBlk])
      | (refine AWP.exit ?_; try simp only [thn, inBlk, if_true, reduceIte, Nat.reduceEqDiff])
      | (refine AWP.ret ?_; try dsimp only [thn, inBlk])
      | (refine AWP.condT ?_ ?_; (focus (simp [go_sem, hj2, hj3, q1, q2, q7, hb, hb']; done)))
      | (refine AWP.condF ?_ ?_; (focus (simp [go_sem, hj2, hj3, q1, q2, q7, hb, hb']; done)))
      | (apply AWP.rE; (focus (simp [go_sem, hj2, hj3, q1, q2, q7, hb, hb']; exact ⟨rfl, rfl⟩)); try dsimp only [thn, inBlk])
      | fail)
    simp [bodyQ, thn, inBlk, resA, resV, go_sem]
    exact k
  have hb' : ¬ (70000 : Int) < fs[j].2.length := by omega
  by_cases hg : 200000 < tg (fs.take j)
  · have hg' : (200000 : Int) < tg (fs.take j) := by omega
    (repeat' first
      | refine AWP.seq ?_
      | refine AWP.block ?_
      | (refine AWP.skip ?_; try dsimp only [thn, inBlk])
      | (refine AWP.exit ?_; try simp only [thn, inBlk, if_true, reduceIte, Nat.reduceEqDiff])
      | (refine AWP.ret ?_; try dsimp only [thn, inBlk])
      | (refine AWP.condT ?_ ?_; (focus (simp [go_sem, hj2, hj3, q1, q2, q7, hb, hb', hg, hg']; done)))
      | (refine AWP.condF ?_ ?_; (focus (simp [go_sem, hj2, hj3, q1, q2, q7, hb, hb', hg, hg']; done)))
      | (apply AWP.rE; (focus (simp [go_sem, hj2, hj3, q1, q2, q7, hb, hb', hg, hg']; exact ⟨rfl, rfl⟩)); try dsimp only [thn, inBlk])
      | fail)
    simp [bodyQ, thn, inBlk, resA, resV, go_sem]
    exact k
  have hg' : ¬ (200000 : Int) < tg (fs.take j) := by omega
  have e : tg (fs.take (j + 1)) = tg (fs.take j) + (fs[j].2.length + 10) := by
    unfold tg; rw [List.take_succ_eq_append_getElem hj2, List.map_append, List.sum_append]; simp
  generalize tg (fs.take j) = g at *
  have w1 : IntKind.i64.wrap ((fs[j].2.length : Int) + 10) = ((fs[j].2.length + 10 : Nat) : Int) := by rw [wI64 (by omega) (by omega)]; omega
  generalize hL : fs[j].2.length + 10 = L at *
  have w2 : IntKind.i64.wrap ((g : Int) + L) = ((g + L : Nat) : Int) := by rw [wI64 (by omega) (by omega)]; omega
  (repeat' first
    | refine AWP.seq ?_
    | refine AWP.block ?_
    | (refine AWP.skip ?_; try dsimp only [thn, inBlk])
    | (refine AWP.exit ?_; try simp only [thn, inBlk, if_true, reduceIte, Nat.reduceEqDiff])
    | (refine AWP.ret ?_; try dsimp only [thn, inBlk])
    | (refine AWP.condT ?_ ?_; (focus (simp [go_sem, hj2, hj3, q1, q2, q7, hb, hb', hg, hg', w1, w2, wj]; done)))
    | (refine AWP.condF ?_ ?_; (focus (simp [go_sem, hj2, hj3, q1, q2, q7, hb, hb', hg, hg', w1, w2, wj]; done)))
    | (apply AWP.rE; (focus (simp [go_sem, hj2, hj3, q1, q2, q7, hb, hb', hg, hg', w1, w2, wj]; exact ⟨rfl, rfl⟩)); try dsimp only [thn, inBlk])
    | fail)
  exact ⟨fs.length - (j + 1), by omega, j + 1, by omega, rfl, by omega, by simp [go_sem, e], rfl⟩

set_option maxHeartbeats 4000000 in
theorem copied_calls {O : Old} {h : AHeap} {R : List Chunk} {v : Value} {fs : List F} (k : Own O h R) (hx : ∀ h, Own O h R → Fs h v fs) (hl : fs.length ≤ 100000) (hm : ∀ f ∈ fs, f.2.length ≤ 1000000) :
    ACalls Try.prog 16 #[v] h fun r h' => ∃ a c, r = .slice a fs.length c ∧ Own O h' (fch (.slice a fs.length c) fs :: R) := by
  obtain ⟨va, vc, rfl⟩ := (hx h k).val
  refine ACalls.of_awp (args := [.slice va fs.length vc]) (n := 25) Try.func16 rfl rfl (by show 1 ≤ 25; omega) ?_
  have k1 : Own O _ (fch (.slice (some ⟨h.next, 0, none⟩) 0 0) [] :: R) := brecs_iff.2 ⟨[], rfl, (k.push (.row [] 46 2 true false)).os_mk (n := 0) (cap := 0) (off := 0) (cs := []) (Nat.le_refl _) (by simp) (by rfl)⟩
  (repeat' first
    | refine AWP.seq ?_
    | refine AWP.block ?_
    | (refine AWP.skip ?_; try dsimp only [thn, inBlk])
    | (refine AWP.exit ?_; try simp only [thn, inBlk, if_true, reduceIte, Nat.reduceEqDiff])
    | (refine AWP.ret ?_; try dsimp only [thn, inBlk])
    | (refine AWP.condT ?_ ?_; (focus (simp [go_sem]; done)))
    | (refine AWP.condF ?_ ?_; (focus (simp [go_sem]; done)))
    | (apply AWP.rE; (focus (simp [go_sem]; exact ⟨rfl, rfl⟩)); try dsimp only [thn, inBlk])
    | fail)
  refine AWP.loopR [3, 7, 8, 9] (fun m s' h' => ∃ (j : Nat) (a : Option Addr) (c : Nat), j ≤ fs.length ∧ m = fs.length - j ∧ s' = ⟨25, [(3, .slice a j c), (7, .slice va fs.length vc), (8, .int .i64 fs.length), (9, .int .i64 j)]⟩ ∧ Own O h' (fch (.slice a j c) (fs.take j) :: R)) ?_ ?_
  · exact ⟨_, 0, some ⟨h.next, 0, none⟩, 0, by omega, rfl, by simp [go_sem], by simpa using k1⟩
  rintro m s' h' ⟨j, a, c, hj, rfl, rfl, kt⟩
  by_cases hj2 : j < fs.length
  rotate_left
  · have hj3 : ¬ (j : Int) < fs.length := by omega
    obtain rfl : j = fs.length := by omega
    rw [List.take_length] at kt
    (repeat' first
      | refine AWP.seq ?_
      | refine AWP.block ?_
      | (refine AWP.skip ?_; try dsimp only [thn, inBlk])
      | (refine AWP.exit ?_; try simp only [thn, inBlk, if_true, reduceIte, Nat.reduceEqDiff])
      | (refine AWP.ret ?_; try dsimp only [thn, inBlk])
      | (refine AWP.condT ?_ ?_; (focus (simp [go_sem, hj3]; done)))
      | (refine AWP.condF ?_ ?_; (focus (simp [go_sem, hj3]; done)))
      | (apply AWP.rE; (focus (simp [go_sem, hj3]; exact ⟨rfl, rfl⟩)); try dsimp only [thn, inBlk])
      | fail)
    simp [bodyQ, thn, inBlk, resA, resV, go_sem]
    exact ⟨_, _, ⟨rfl, rfl⟩, kt⟩
  have hj3 : (j : Int) < fs.length := by omega
  have wj : IntKind.i64.wrap ((j : Int) + 1) = ((j + 1 : Nat) : Int) := by rw [wI64 (by omega) (by omega)]; omega
  obtain ⟨bi, bo, bc, be, bz, bt, br, wa, wc, q1, q2, q3, q4, q5, q6⟩ := (hx _ kt.tail).at (P := Try.prog) (t := 29) (fun _ => rfl) Try.underlying29 tsz46 hj2 (kd := .i64)
  have hmj := hm _ (List.getElem_mem hj2)
  have hst : fs.take (j + 1) = fs.take j ++ [fs[j]] := List.take_succ_eq_append_getElem hj2
  generalize fs[j] = f at *
  obtain ⟨tag, body⟩ := f
  simp only [pre, List.cons_append, List.nil_append] at q4 q5 hmj
  (repeat' first
    | refine AWP.seq ?_
    | refine AWP.block ?_
    | (refine AWP.skip ?_; try dsimp only [thn, inBlk])
    | (refine AWP.exit ?_; try simp only [thn, inBlk, if_true, reduceIte, Nat.reduceEqDiff])
    | (refine AWP.ret ?_; try dsimp only [thn, inBlk])
    | (refine AWP.condT ?_ ?_; (focus (simp [go_sem, hj2, hj3, q1, q2, q3, q4]; done)))
    | (refine AWP.condF ?_ ?_; (focus (simp [go_sem, hj2, hj3, q1, q2, q3, q4]; done)))
    | (apply AWP.rE; (focus (simp [go_sem, hj2, hj3, q1, q2, q3, q4]; exact ⟨rfl, rfl⟩)); try dsimp only [thn, inBlk])
    | fail)
  have k2 := kt.push (.row [.int .i64 tag, .slice wa body.length wc] 46 2 true false)
  have c2 := k2.obj
  have k3 : Own O _ (ob 5 (.slice (some ⟨h'.next + 1, 0, none⟩) 0 0) [] :: _) := (k2.push (.row [] 5 1 true false)).row_any (n := 0) rfl
  obtain ⟨a3, c3, h3, e3, k4⟩ := k3.appB (P := Try.prog) (t := 24) (xt := 24) Try.underlying24 tsz5 tby5 tz5 nI24 (q6.ext (((Ext.refl _).push _).push _)).src (by simp; omega)
  rw [List.nil_append, List.length_nil, Nat.zero_add] at k4
  rw [List.length_nil, Nat.zero_add] at e3
  have c4 := k4.b1.obj
  have htl : (fs.take j).length = j := by simp; omega
  generalize hT : fs.take j = T at *
  rw [← htl] at k4
  obtain ⟨a5, c5, h5, e5, k5⟩ := k4.b2.brecs_app (P := Try.prog) (t := 29) (xt := 29) (fs := T) (x := tag) (bs := body) (i := h3.next) Try.underlying29 tsz46 tby46 tz46 nI29 (by omega) rfl rfl rfl rfl (by omega)
  rw [htl] at e5 k5
  simp only [pre, List.cons_append, List.nil_append] at e5
  refine AWP.draw hmix [.n 0 [3], .n 1 [5], .n 2 [14], .n 3 [], .n 4 [5], .n 5 [17], .w 6 [16, 18] [2], .n 7 [15, 19], .n 8 [20], .w 9 [13, 21] [], .n 10 [22]] (by kernel_rfl) ?_
  refine awpD_writeR 6 (by rfl) (by rfl) (by simp [go_sem, c2, e3, c4]; exact ⟨rfl, rfl, rfl⟩) (by rfl) (by rfl) (by simp [go_sem]) (by simp [go_sem, c2, e3, c4]; exact ⟨rfl, rfl⟩) (by simp [still, go_sem, c2, e3, c4]) ?_
  refine awpD_writeR 2 (by rfl) (by rfl) (by simp [go_sem, e5, c4]; exact ⟨rfl, rfl, rfl⟩) (by rfl) (by rfl) (by simp [go_sem]) (by simp [go_sem, e5, c4]; exact ⟨rfl, rfl⟩) (by simp [still, go_sem, e5, c4]) ?_
  refine awpD_restR (by rfl) (by simp [go_sem]; exact ⟨rfl, rfl, rfl⟩) ?_; try dsimp only [thn, inBlk]
  (repeat' first
    | refine AWP.seq ?_
    | refine AWP.block ?_
    | (refine AWP.skip ?_; try dsimp only [thn, inBlk])
    | (refine AWP.exit ?_; try simp only [thn, inBlk, if_true, reduceIte, Nat.reduceEqDiff])
    | (refine AWP.ret ?_; try dsimp only [thn, inBlk])
    | (refine AWP.condT ?_ ?_; (focus (simp [go_sem, wj]; done)))
    | (refine AWP.condF ?_ ?_; (focus (simp [go_sem, wj]; done)))
    | (apply AWP.rE; (focus (simp [go_sem, wj]; exact ⟨rfl, rfl⟩)); try dsimp only [thn, inBlk])
    | fail)
  refine ⟨fs.length - (j + 1), by omega, j + 1, a5, c5, by omega, rfl, by simp [go_sem], ?_⟩
  rw [hst]
  exact k5.d1

set_option maxHeartbeats 4000000 in
theorem refField_calls {O : Old} {h : AHeap} {R : List Chunk} {t : Int} {v : Value} {bs : List UInt8} (k : Own O h R) (hx : Bytes h v bs) (h1 : 1 ≤ t) (h2 : t ≤ 255) (h3 : bs.length ≤ 65535) :
    ACalls Try.prog 27 #[.int .i64 t, v] h fun r h' => ∃ a c, r = .slice a (T1.encF (t, bs)).length c ∧ Own O h' (ob 5 (.slice a (T1.encF (t, bs)).length c) (T1.encF (t, bs)) :: R) := by
  obtain ⟨va, vc, rfl⟩ := hx.val
  refine ACalls.of_awp (args := [.int .i64 t, .slice va bs.length vc]) (n := 20) Try.func27 rfl rfl (by show 2 ≤ 20; omega) ?_
  obtain ⟨b0, hb0⟩ : ∃ b : UInt8, b = UInt8.ofNat t.toNat := ⟨_, rfl⟩
  obtain ⟨b1, hb1⟩ : ∃ b : UInt8, b = UInt8.ofNat (bs.length / 256) := ⟨_, rfl⟩
  obtain ⟨b2, hb2⟩ : ∃ b : UInt8, b = UInt8.ofNat bs.length := ⟨_, rfl⟩
  have he : T1.encF (t, bs) = [b0, b1, b2] ++ bs := by simp only [T1.encF, hb0, hb1, hb2]
  obtain ⟨m, hm⟩ : ∃ m : Nat, m = bs.length / 256 := ⟨_, rfl⟩
  obtain ⟨q, hq⟩ : ∃ q : Nat, q = bs.length % 256 := ⟨_, rfl⟩
  have w0 : IntKind.u8.wrap t = (b0.toNat : Int) := by rw [hb0, IntKind.wrap_u8]; simp; omega
  have wd : (bs.length : Int).tdiv 256 = m := by rw [hm, Int.tdiv_eq_ediv_of_nonneg (by omega)]; rfl
  have wt : (bs.length : Int).tmod 256 = q := by rw [hq, Int.tmod_eq_emod_of_nonneg (by omega)]; rfl
  have wi : IntKind.i64.wrap (m : Int) = m := wI64 (by omega) (by omega)
  have wq : IntKind.i64.wrap (q : Int) = q := wI64 (by omega) (by omega)
  have w1 : IntKind.u8.wrap (m : Int) = (b1.toNat : Int) := by rw [hb1, IntKind.wrap_u8, ← hm]; simp
  have w2 : IntKind.u8.wrap (q : Int) = (b2.toNat : Int) := by rw [hb2, IntKind.wrap_u8, hq]; simp
  have k2 : Own O _ (ob 5 (.slice (some ⟨h.next, 0, none⟩) 3 3) [b0, b1, b2] :: R) := (k.push (.row [.int .u8 b0.toNat, .int .u8 b1.toNat, .int .u8 b2.toNat] 5 1 true false)).row_any (n := 3) rfl
  obtain ⟨a3, c3, h5, e3, k4⟩ := k2.appB (P := Try.prog) (t := 24) (xt := 24) Try.underlying24 tsz5 tby5 tz5 nI24 (hx.ext ((Ext.refl _).push _)).src (by simp; omega)
  rw [← he] at k4
  have hl : 3 + bs.length = (T1.encF (t, bs)).length := by rw [he]; simp; omega
  have hl2 : [b0, b1, b2].length + bs.length = 3 + bs.length := by simp
  rw [hl2, hl] at k4
  rw [hl2, hl] at e3
  have e3' : appendW Try.prog (h.push (.row [.int .u8 b0.toNat, .int .u8 b1.toNat, .int .u8 b2.toNat] 5 1 true false)) 24 24 (.slice (some ⟨h.next, 0, none⟩) 3 3) (.slice va bs.length vc) = some (.slice a3 (T1.encF (t, bs)).length c3, h5) := e3
  (repeat' first
    | refine AWP.seq ?_
    | refine AWP.block ?_
    | (refine AWP.skip ?_; try dsimp only [thn, inBlk])
    | (refine AWP.exit ?_; try simp only [thn, inBlk, if_true, reduceIte, Nat.reduceEqDiff])
    | (refine AWP.ret ?_; try dsimp only [thn, inBlk])
    | (refine AWP.condT ?_ ?_; (focus (simp [go_sem, w0, wd, wt, wi, wq, w1, w2, e3']; done)))
    | (refine AWP.condF ?_ ?_; (focus (simp [go_sem, w0, wd, wt, wi, wq, w1, w2, e3']; done)))
    | (apply AWP.rE; (focus (simp [go_sem, w0, wd, wt, wi, wq, w1, w2, e3']; exact ⟨rfl, rfl⟩)); try dsimp only [thn, inBlk])
    | fail)
  simp [bodyQ, thn, inBlk, resA, resV, go_sem]
  exact ⟨_, _, ⟨rfl, rfl⟩, k4⟩
end L01
