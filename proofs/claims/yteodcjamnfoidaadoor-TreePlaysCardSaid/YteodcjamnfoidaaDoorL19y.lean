import Derived.Test.YteodcjamnfoidaaDoorL19x
open Go Ab Go.Proofs
namespace L19
set_option autoImplicit false
set_option linter.unusedSimpArgs false
set_option linter.unusedVariables false

/-! ### Two lists of nodes that are one -/
abbrev Nk := List UInt8 × Bool × List UInt8 × Nat
def preN (x : Nk) : List Value := [tx x.1, .bool x.2.1, tx x.2.2.1, .int .i64 x.2.2.2]
def nk (x : List UInt8 × Nd) : Nk × List UInt8 := ((x.1, x.2.dir, x.2.own, x.2.mode), x.2.data)
theorem nds_br {O : Old} {h : AHeap} {R : List Chunk} {v : Value} {xs : TL} (k : Own O h (nds v xs :: R)) : BR preN 5 h v (xs.map nk) := by
  obtain ⟨ws, hw, k0⟩ := grecs_iff.1 k
  have e : rcells preN (xs.map nk) ws = gcells ncells xs ws := by
    simp only [rcells, gcells]
    rw [List.zipWith_map_left]
    apply List.ext_getElem?
    intro j
    simp only [List.getElem?_zipWith]
    cases xs[j]? <;> cases ws[j]? <;> rfl
  refine ⟨ws, by simp [hw], by rw [e, List.length_map]; exact k0.os_sl, fun j f p hf hp => ?_⟩
  rw [List.getElem?_map] at hf
  obtain ⟨x, hx, rfl⟩ := Option.map_eq_some_iff.1 hf
  exact (k0.tail.mem (gsubs_get (sub := ndat) hx hp)).ob_bytes
theorem nk_at {h : AHeap} {v : Value} {l : List (Nk × List UInt8)} (k : BR preN 5 h v l) {j : Nat} (hj : j < l.length) {kd : IntKind} :
    ∃ i off c e' sz' ti ro a cap, indexAddrP Tryd.prog 40 v (.int kd j) = some (.pointer (some ⟨i, off, none⟩)) ∧ h.obj i = some (.row c e' sz' ti ro) ∧ c[off]? = some (tx l[j].1.1) ∧ c[off + 1]? = some (.bool l[j].1.2.1) ∧ c[off + 2]? = some (tx l[j].1.2.2.1) ∧ c[off + 3]? = some (.int .i64 l[j].1.2.2.2) ∧ c[off + 4]? = some (.slice a l[j].2.length cap) ∧ Bytes h (.slice a l[j].2.length cap) l[j].2 := by
  obtain ⟨i, off, c, e', sz', ti, ro, a, cap, h1, h2, h3, h4, h5, h6⟩ := k.at (P := Tryd.prog) (fun _ => rfl) Tryd.underlying40 tsz43 hj (kd := kd)
  exact ⟨i, off, c, e', sz', ti, ro, a, cap, h1, h2, h5 0 _ rfl, h5 1 _ rfl, h5 2 _ rfl, h5 3 _ rfl, h5 4 _ rfl, h6⟩
set_option maxHeartbeats 4000000 in
theorem same_calls {h : AHeap} {v1 v2 : Value} {l : List (Nk × List UInt8)} (b1 : BR preN 5 h v1 l) (b2 : BR preN 5 h v2 l) (hm : l.length ≤ 1000000000) :
    ACalls Tryd.prog 21 #[v1, v2] h fun v h' => v = .bool true ∧ h' = h := by
  obtain ⟨xa, xc, rfl⟩ := b1.val
  obtain ⟨ya, yc, rfl⟩ := b2.val
  refine ACalls.of_awp (args := [.slice xa l.length xc, .slice ya l.length yc]) (n := 82) Tryd.func21 rfl rfl (by show 2 ≤ 82; omega) ?_
  (repeat' first
    | refine AWP.seq ?_
    | refine AWP.block ?_
    | (refine AWP.skip ?_; try dsimp only [thn, inBlk])
    | (refine AWP.exit ?_; try simp only [thn, inBlk, if_true, reduceIte, Nat.reduceEqDiff])
    | (refine AWP.ret ?_; try dsimp only [thn, inBlk])
    | (refine AWP.condT ?_ ?_; (focus (simp [go_sem]; done)))
    | (refine AWP.condF ?_ ?_; (focus (simp [go_sem]; done)))
    | (apply AWP.rE; (focus (simp [go_sem]; exact ⟨rfl, rfl⟩)); try dsimp only [thn, inBlk])
    | (apply AWP.dE hmix [.n 0 [0], .n 1 [5], .n 2 [17, 18], .n 3 [19], .n 4 [20], .n 5 [1], .n 6 [5], .n 7 [22, 23], .n 8 [24], .n 9 [25], .n 10 [21, 26], .n 11 [27], .n 12 [0, 28], .n 13 [5, 28], .n 14 [29, 30, 28], .n 15 [31, 28], .n 16 [32, 28], .n 17 [1, 28], .n 18 [5, 28], .n 19 [34, 35, 28], .n 20 [36, 28], .n 21 [37, 28], .n 22 [33, 38, 28], .n 23 [28, 39], .n 24 [40], .n 25 [0, 41], .n 26 [5, 41], .n 27 [42, 43, 41], .n 28 [44, 41], .n 29 [45, 41], .n 30 [1, 41], .n 31 [5, 41], .n 32 [47, 48, 41], .n 33 [49, 41], .n 34 [50, 41], .n 35 [46, 51, 41], .n 36 [41, 52], .n 37 [53], .n 38 [0, 54], .n 39 [5, 54], .n 40 [55, 56, 54], .n 41 [57, 54], .n 42 [58, 54], .n 43 [1, 54], .n 44 [5, 54], .n 45 [60, 61, 54], .n 46 [62, 54], .n 47 [63, 54], .n 48 [59, 64, 54], .n 49 [54, 65], .n 50 [66], .n 51 [0, 67], .n 52 [5, 67], .n 53 [68, 69, 67], .n 54 [70, 67], .n 55 [71, 67], .n 56 [72, 67], .n 57 [1, 67], .n 58 [5, 67], .n 59 [74, 75, 67], .n 60 [76, 67], .n 61 [77, 67], .n 62 [78, 67], .n 63 [73, 79, 67], .n 64 [67, 80]]; (focus kernel_rfl); (focus (simp [go_sem]; exact ⟨rfl, rfl⟩)); try dsimp only [thn, inBlk])
    | fail)
  refine AWP.loopR [0, 1, 5] (fun m s h' => ∃ j : Nat, j ≤ l.length ∧ m = l.length - j ∧ s = ⟨82, [(0, .slice xa l.length xc), (1, .slice ya l.length yc), (5, .int .i64 j)]⟩ ∧ h' = h) ?_ ?_
  · exact ⟨_, 0, by omega, rfl, rfl, rfl⟩
  rintro m s h' ⟨j, hj, rfl, rfl, rfl⟩
  by_cases hj0 : j < l.length
  rotate_left
  · have hj1 : ¬ (j : Int) < l.length := by omega
    (repeat' first
      | refine AWP.seq ?_
      | refine AWP.block ?_
      | (refine AWP.skip ?_; try dsimp only [thn, inBlk])
      | (refine AWP.exit ?_; try simp only [thn, inBlk, if_true, reduceIte, Nat.reduceEqDiff])
      | (refine AWP.ret ?_; try dsimp only [thn, inBlk])
      | (refine AWP.condT ?_ ?_; (focus (simp [go_sem, hj1]; done)))
      | (refine AWP.condF ?_ ?_; (focus (simp [go_sem, hj1]; done)))
      | (apply AWP.rE; (focus (simp [go_sem, hj1]; exact ⟨rfl, rfl⟩)); try dsimp only [thn, inBlk])
      | (apply AWP.dE hmix [.n 0 [0], .n 1 [5], .n 2 [17, 18], .n 3 [19], .n 4 [20], .n 5 [1], .n 6 [5], .n 7 [22, 23], .n 8 [24], .n 9 [25], .n 10 [21, 26], .n 11 [27], .n 12 [0, 28], .n 13 [5, 28], .n 14 [29, 30, 28], .n 15 [31, 28], .n 16 [32, 28], .n 17 [1, 28], .n 18 [5, 28], .n 19 [34, 35, 28], .n 20 [36, 28], .n 21 [37, 28], .n 22 [33, 38, 28], .n 23 [28, 39], .n 24 [40], .n 25 [0, 41], .n 26 [5, 41], .n 27 [42, 43, 41], .n 28 [44, 41], .n 29 [45, 41], .n 30 [1, 41], .n 31 [5, 41], .n 32 [47, 48, 41], .n 33 [49, 41], .n 34 [50, 41], .n 35 [46, 51, 41], .n 36 [41, 52], .n 37 [53], .n 38 [0, 54], .n 39 [5, 54], .n 40 [55, 56, 54], .n 41 [57, 54], .n 42 [58, 54], .n 43 [1, 54], .n 44 [5, 54], .n 45 [60, 61, 54], .n 46 [62, 54], .n 47 [63, 54], .n 48 [59, 64, 54], .n 49 [54, 65], .n 50 [66], .n 51 [0, 67], .n 52 [5, 67], .n 53 [68, 69, 67], .n 54 [70, 67], .n 55 [71, 67], .n 56 [72, 67], .n 57 [1, 67], .n 58 [5, 67], .n 59 [74, 75, 67], .n 60 [76, 67], .n 61 [77, 67], .n 62 [78, 67], .n 63 [73, 79, 67], .n 64 [67, 80]]; (focus kernel_rfl); (focus (simp [go_sem, hj1]; exact ⟨rfl, rfl⟩)); try dsimp only [thn, inBlk])
      | fail)
    simp [bodyQ, thn, inBlk, resA, resV, go_sem]
  have hj1 : (j : Int) < l.length := by omega
  have w1 : IntKind.i64.wrap ((j : Int) + 1) = ((j + 1 : Nat) : Int) := by rw [wI64 (by omega) (by omega)]; omega
  obtain ⟨i0, o0, c0, e0, z0, ti0, ro0, a0, n0, p0, q0, f0, f1, f2, f3, f4, b0⟩ := nk_at b1 hj0 (kd := .i64)
  obtain ⟨i3, o3, c3, e3, z3, ti3, ro3, a3, n3, p3, q3, g0, g1, g2, g3, g4, b3⟩ := nk_at b2 hj0 (kd := .i64)
  have s0 := b0.str (P := Tryd.prog) (t := 22) (e := 5) (u := 9) Tryd.underlying22 Tryd.underlying5 Tryd.underlying9
  have s3 := b3.str (P := Tryd.prog) (t := 22) (e := 5) (u := 9) Tryd.underlying22 Tryd.underlying5 Tryd.underlying9
  generalize l[j] = x at f0 f1 f2 f3 f4 g0 g1 g2 g3 g4 s0 s3
  obtain ⟨⟨x1, x2, x3, x4⟩, x5⟩ := x
  dsimp only at f0 f1 f2 f3 f4 g0 g1 g2 g3 g4 s0 s3
  (repeat' first
    | refine AWP.seq ?_
    | refine AWP.block ?_
    | (refine AWP.skip ?_; try dsimp only [thn, inBlk])
    | (refine AWP.exit ?_; try simp only [thn, inBlk, if_true, reduceIte, Nat.reduceEqDiff])
    | (refine AWP.ret ?_; try dsimp only [thn, inBlk])
    | (refine AWP.condT ?_ ?_; (focus (simp [go_sem, hj1, p0, q0, f0, f1, f2, f3, f4, p3, q3, g0, g1, g2, g3, g4, s0, s3, w1]; done)))
    | (refine AWP.condF ?_ ?_; (focus (simp [go_sem, hj1, p0, q0, f0, f1, f2, f3, f4, p3, q3, g0, g1, g2, g3, g4, s0, s3, w1]; done)))
    | (apply AWP.rE; (focus (simp [go_sem, hj1, p0, q0, f0, f1, f2, f3, f4, p3, q3, g0, g1, g2, g3, g4, s0, s3, w1]; exact ⟨rfl, rfl⟩)); try dsimp only [thn, inBlk])
    | (apply AWP.dE hmix [.n 0 [0], .n 1 [5], .n 2 [17, 18], .n 3 [19], .n 4 [20], .n 5 [1], .n 6 [5], .n 7 [22, 23], .n 8 [24], .n 9 [25], .n 10 [21, 26], .n 11 [27], .n 12 [0, 28], .n 13 [5, 28], .n 14 [29, 30, 28], .n 15 [31, 28], .n 16 [32, 28], .n 17 [1, 28], .n 18 [5, 28], .n 19 [34, 35, 28], .n 20 [36, 28], .n 21 [37, 28], .n 22 [33, 38, 28], .n 23 [28, 39], .n 24 [40], .n 25 [0, 41], .n 26 [5, 41], .n 27 [42, 43, 41], .n 28 [44, 41], .n 29 [45, 41], .n 30 [1, 41], .n 31 [5, 41], .n 32 [47, 48, 41], .n 33 [49, 41], .n 34 [50, 41], .n 35 [46, 51, 41], .n 36 [41, 52], .n 37 [53], .n 38 [0, 54], .n 39 [5, 54], .n 40 [55, 56, 54], .n 41 [57, 54], .n 42 [58, 54], .n 43 [1, 54], .n 44 [5, 54], .n 45 [60, 61, 54], .n 46 [62, 54], .n 47 [63, 54], .n 48 [59, 64, 54], .n 49 [54, 65], .n 50 [66], .n 51 [0, 67], .n 52 [5, 67], .n 53 [68, 69, 67], .n 54 [70, 67], .n 55 [71, 67], .n 56 [72, 67], .n 57 [1, 67], .n 58 [5, 67], .n 59 [74, 75, 67], .n 60 [76, 67], .n 61 [77, 67], .n 62 [78, 67], .n 63 [73, 79, 67], .n 64 [67, 80]]; (focus kernel_rfl); (focus (simp [go_sem, hj1, p0, q0, f0, f1, f2, f3, f4, p3, q3, g0, g1, g2, g3, g4, s0, s3, w1]; exact ⟨rfl, rfl⟩)); try dsimp only [thn, inBlk])
    | fail)
  exact ⟨l.length - (j + 1), by omega, j + 1, by omega, rfl, by simp [go_sem], rfl⟩
end L19
