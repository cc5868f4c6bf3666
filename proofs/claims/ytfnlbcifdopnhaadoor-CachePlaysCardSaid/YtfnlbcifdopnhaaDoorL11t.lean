import Derived.Test.YtfnlbcifdopnhaaDoorL11s
open Go Ab Go.Proofs
namespace L11
set_option autoImplicit false
set_option linter.unusedSimpArgs false
set_option linter.unusedVariables false
section
variable {O : Old} {h : AHeap} {R : List Chunk} {i : Nat} {es : List CX}
theorem crs_app {O : Old} {h : AHeap} {R : List Chunk} {v : Value} {l : List CX} {x : CX} (k : Own O h (os 34 23 v (l.length + 1) ((l.map crx).flatten ++ crx x) :: R)) : Own O h (crs v (l ++ [x]) :: R) := by
  simpa [crs] using k
theorem keep_take {now : Int} {es : List CX} {j : Nat} {x : CX} (hj : es[j]? = some x) : keepS (es.take (j + 1)) now = keepS (es.take j) now ++ (if now ≤ x.1.g.en then [x] else []) := by
  rw [List.take_add_one, hj, keepS, List.filter_append, keepS]
  congr 1
  by_cases h : now ≤ x.1.g.en <;> simp [h]
theorem crs_get {O : Old} {h : AHeap} {R : List Chunk} {v : Value} {es : List CX} {n : Nat} (hn : n = es.length) (k : Own O h (os 34 23 v n (es.map crx).flatten :: R)) : Own O h (crs v es :: R) := by
  subst hn; exact k
set_option maxHeartbeats 16000000 in
theorem rput_calls {e : CX} {now : Int} (k : Own O h (rcs i es :: R)) (hm : es.length ≤ 1000) (h1 : e.1.cl.length ≤ 900000) (h2 : e.1.g.sv.length ≤ 60000) :
    ACalls Tryd.prog 15 #[ptr i, crV e, .int .i64 now] h fun r h' => ∃ z es', r = .int .i64 z ∧ PutS es e now z es' ∧ Own O h' (rcs i es' :: R) := by
  refine ACalls.of_awp (args := [ptr i, crV e, .int .i64 now]) (n := 154) Tryd.func15 rfl rfl (by show 3 ≤ 154; omega) ?_
  obtain ⟨v, k0⟩ := rcs_iff.1 k
  have k1 := k0.push (.row (crx e) 34 23 true false)
  have c1 := k1.obj
  (repeat' first
    | refine AWP.seq ?_
    | refine AWP.block ?_
    | (refine AWP.skip ?_; try dsimp only [thn, inBlk])
    | (refine AWP.exit ?_; try simp only [thn, inBlk, if_true, reduceIte, Nat.reduceEqDiff])
    | (refine AWP.ret ?_; try dsimp only [thn, inBlk])
    | (refine AWP.condT ?_ ?_; (focus (simp [go_sem]; done)))
    | (refine AWP.condF ?_ ?_; (focus (simp [go_sem]; done)))
    | (apply AWP.rE; (focus (simp [go_sem]; exact ⟨rfl, rfl⟩)); try dsimp only [thn, inBlk])
    | (apply AWP.dE hmix [.n 0 [0], .n 1 [76], .n 2 [77], .n 3 [78], .n 4 [9], .n 5 [4], .n 6 [79, 80], .w 7 [82, 81] []]; (focus kernel_rfl); (focus (simp [go_sem]; exact ⟨rfl, rfl⟩)); try dsimp only [thn, inBlk])
    | (apply AWP.dE hmix [.n 0 [0], .n 1 [0], .n 2 [84], .n 3 [85], .n 4 [86], .n 5 [4], .n 6 [88], .w 7 [87, 89] [], .n 8 [83], .n 9 [91], .w 10 [92, 90] []]; (focus kernel_rfl); (focus (simp [go_sem]; exact ⟨rfl, rfl⟩)); try dsimp only [thn, inBlk])
    | (apply AWP.dE hmix [.n 0 [10], .n 1 [99], .n 2 [100], .n 3 [0, 101], .n 4 [102, 101], .n 5 [103, 101], .n 6 [104, 101], .n 7 [10, 101], .n 8 [105, 106, 101], .n 9 [107, 101], .n 10 [108, 101], .n 11 [109, 101], .n 12 [0, 101], .n 13 [111, 101], .n 14 [112, 101], .n 15 [113, 101], .n 16 [10, 101], .n 17 [115, 101], .n 18 [114, 116, 101], .n 19 [117, 101], .n 20 [118, 101], .n 21 [119, 101], .n 22 [110, 120, 101], .n 23 [101, 121]]; (focus kernel_rfl); (focus (simp [go_sem]; exact ⟨rfl, rfl⟩)); try dsimp only [thn, inBlk])
    | (apply AWP.dE hmix [.n 0 [0], .n 1 [132], .n 2 [133], .n 3 [134], .n 4 [10], .n 5 [0], .n 6 [137], .n 7 [138], .n 8 [139], .n 9 [10], .n 10 [141], .n 11 [140, 142], .n 12 [143], .n 13 [135, 136], .w 14 [145, 144] []]; (focus kernel_rfl); (focus (simp [go_sem]; exact ⟨rfl, rfl⟩)); try dsimp only [thn, inBlk])
    | (apply AWP.dE hmix [.n 0 [0], .n 1 [146], .n 2 [147], .n 3 [148], .n 4 [10], .n 5 [150], .n 6 [11], .n 7 [149, 151], .w 8 [153, 152] []]; (focus kernel_rfl); (focus (simp [go_sem]; exact ⟨rfl, rfl⟩)); try dsimp only [thn, inBlk])
    | fail)
  refine AWP.callE (by simp [go_sem, c1]; exact ⟨rfl, rfl, rfl, rfl, rfl⟩) (by kernel_rfl) ?_
  refine (rnamed_calls (l := e.1.cl) k1 h1).mono ?_
  rintro r hA ⟨rfl, k2⟩
  have c2 := k2.obj
  have back : ∀ {hh : AHeap} {A : Chunk}, Own O hh (A :: cell i (rrow v) :: crs v es :: R) → Own O hh (rcs i es :: R) := fun kk => rcs_iff.2 ⟨v, kk.tail⟩
  cases hnb : nameB e.1.cl
  · have hg : goodC e.1 = false := by simp [goodC, hnb]
    refine awpL_restE (by simp [go_sem, c2]; exact ⟨rfl, rfl⟩) ?_; try dsimp only [thn, inBlk]
    (repeat' first
      | refine AWP.seq ?_
      | refine AWP.block ?_
      | (refine AWP.skip ?_; try dsimp only [thn, inBlk])
      | (refine AWP.exit ?_; try simp only [thn, inBlk, if_true, reduceIte, Nat.reduceEqDiff])
      | (refine AWP.ret ?_; try dsimp only [thn, inBlk])
      | (refine AWP.condT ?_ ?_; (focus (simp [go_sem]; done)))
      | (refine AWP.condF ?_ ?_; (focus (simp [go_sem]; done)))
      | (apply AWP.rE; (focus (simp [go_sem]; exact ⟨rfl, rfl⟩)); try dsimp only [thn, inBlk])
      | (apply AWP.dE hmix [.n 0 [0], .n 1 [76], .n 2 [77], .n 3 [78], .n 4 [9], .n 5 [4], .n 6 [79, 80], .w 7 [82, 81] []]; (focus kernel_rfl); (focus (simp [go_sem]; exact ⟨rfl, rfl⟩)); try dsimp only [thn, inBlk])
      | (apply AWP.dE hmix [.n 0 [0], .n 1 [0], .n 2 [84], .n 3 [85], .n 4 [86], .n 5 [4], .n 6 [88], .w 7 [87, 89] [], .n 8 [83], .n 9 [91], .w 10 [92, 90] []]; (focus kernel_rfl); (focus (simp [go_sem]; exact ⟨rfl, rfl⟩)); try dsimp only [thn, inBlk])
      | (apply AWP.dE hmix [.n 0 [10], .n 1 [99], .n 2 [100], .n 3 [0, 101], .n 4 [102, 101], .n 5 [103, 101], .n 6 [104, 101], .n 7 [10, 101], .n 8 [105, 106, 101], .n 9 [107, 101], .n 10 [108, 101], .n 11 [109, 101], .n 12 [0, 101], .n 13 [111, 101], .n 14 [112, 101], .n 15 [113, 101], .n 16 [10, 101], .n 17 [115, 101], .n 18 [114, 116, 101], .n 19 [117, 101], .n 20 [118, 101], .n 21 [119, 101], .n 22 [110, 120, 101], .n 23 [101, 121]]; (focus kernel_rfl); (focus (simp [go_sem]; exact ⟨rfl, rfl⟩)); try dsimp only [thn, inBlk])
      | (apply AWP.dE hmix [.n 0 [0], .n 1 [132], .n 2 [133], .n 3 [134], .n 4 [10], .n 5 [0], .n 6 [137], .n 7 [138], .n 8 [139], .n 9 [10], .n 10 [141], .n 11 [140, 142], .n 12 [143], .n 13 [135, 136], .w 14 [145, 144] []]; (focus kernel_rfl); (focus (simp [go_sem]; exact ⟨rfl, rfl⟩)); try dsimp only [thn, inBlk])
      | (apply AWP.dE hmix [.n 0 [0], .n 1 [146], .n 2 [147], .n 3 [148], .n 4 [10], .n 5 [150], .n 6 [11], .n 7 [149, 151], .w 8 [153, 152] []]; (focus kernel_rfl); (focus (simp [go_sem]; exact ⟨rfl, rfl⟩)); try dsimp only [thn, inBlk])
      | fail)
    simp [bodyQ, thn, inBlk, resA, resV, go_sem]
    exact ⟨es, by unfold PutS; rw [if_pos hg]; exact ⟨rfl, rfl⟩, back k2⟩
  refine awpL_toCall (by simp [go_sem, c2]; exact ⟨rfl, rfl, rfl, rfl, rfl⟩) (by kernel_rfl) ?_
  refine (rgrant_calls (g := e.1.g) k2 h2).mono ?_
  rintro r hC ⟨rfl, k3⟩
  have c3 := k3.obj
  cases hgr : grantB e.1.g
  · have hg : goodC e.1 = false := by simp [goodC, hgr]
    refine awpL_restE (by simp [go_sem, c3]; exact ⟨rfl, rfl⟩) ?_; try dsimp only [thn, inBlk]
    (repeat' first
      | refine AWP.seq ?_
      | refine AWP.block ?_
      | (refine AWP.skip ?_; try dsimp only [thn, inBlk])
      | (refine AWP.exit ?_; try simp only [thn, inBlk, if_true, reduceIte, Nat.reduceEqDiff])
      | (refine AWP.ret ?_; try dsimp only [thn, inBlk])
      | (refine AWP.condT ?_ ?_; (focus (simp [go_sem]; done)))
      | (refine AWP.condF ?_ ?_; (focus (simp [go_sem]; done)))
      | (apply AWP.rE; (focus (simp [go_sem]; exact ⟨rfl, rfl⟩)); try dsimp only [thn, inBlk])
      | (apply AWP.dE hmix [.n 0 [0], .n 1 [76], .n 2 [77], .n 3 [78], .n 4 [9], .n 5 [4], .n 6 [79, 80], .w 7 [82, 81] []]; (focus kernel_rfl); (focus (simp [go_sem]; exact ⟨rfl, rfl⟩)); try dsimp only [thn, inBlk])
      | (apply AWP.dE hmix [.n 0 [0], .n 1 [0], .n 2 [84], .n 3 [85], .n 4 [86], .n 5 [4], .n 6 [88], .w 7 [87, 89] [], .n 8 [83], .n 9 [91], .w 10 [92, 90] []]; (focus kernel_rfl); (focus (simp [go_sem]; exact ⟨rfl, rfl⟩)); try dsimp only [thn, inBlk])
      | (apply AWP.dE hmix [.n 0 [10], .n 1 [99], .n 2 [100], .n 3 [0, 101], .n 4 [102, 101], .n 5 [103, 101], .n 6 [104, 101], .n 7 [10, 101], .n 8 [105, 106, 101], .n 9 [107, 101], .n 10 [108, 101], .n 11 [109, 101], .n 12 [0, 101], .n 13 [111, 101], .n 14 [112, 101], .n 15 [113, 101], .n 16 [10, 101], .n 17 [115, 101], .n 18 [114, 116, 101], .n 19 [117, 101], .n 20 [118, 101], .n 21 [119, 101], .n 22 [110, 120, 101], .n 23 [101, 121]]; (focus kernel_rfl); (focus (simp [go_sem]; exact ⟨rfl, rfl⟩)); try dsimp only [thn, inBlk])
      | (apply AWP.dE hmix [.n 0 [0], .n 1 [132], .n 2 [133], .n 3 [134], .n 4 [10], .n 5 [0], .n 6 [137], .n 7 [138], .n 8 [139], .n 9 [10], .n 10 [141], .n 11 [140, 142], .n 12 [143], .n 13 [135, 136], .w 14 [145, 144] []]; (focus kernel_rfl); (focus (simp [go_sem]; exact ⟨rfl, rfl⟩)); try dsimp only [thn, inBlk])
      | (apply AWP.dE hmix [.n 0 [0], .n 1 [146], .n 2 [147], .n 3 [148], .n 4 [10], .n 5 [150], .n 6 [11], .n 7 [149, 151], .w 8 [153, 152] []]; (focus kernel_rfl); (focus (simp [go_sem]; exact ⟨rfl, rfl⟩)); try dsimp only [thn, inBlk])
      | fail)
    simp [bodyQ, thn, inBlk, resA, resV, go_sem]
    exact ⟨es, by unfold PutS; rw [if_pos hg]; exact ⟨rfl, rfl⟩, back k3⟩
  have hg : ¬ goodC e.1 = false := by simp [goodC, hgr, hnb]
  by_cases hd : e.1.g.en < now
  · refine awpL_restE (by simp [go_sem, c3]; exact ⟨rfl, rfl⟩) ?_; try dsimp only [thn, inBlk]
    (repeat' first
      | refine AWP.seq ?_
      | refine AWP.block ?_
      | (refine AWP.skip ?_; try dsimp only [thn, inBlk])
      | (refine AWP.exit ?_; try simp only [thn, inBlk, if_true, reduceIte, Nat.reduceEqDiff])
      | (refine AWP.ret ?_; try dsimp only [thn, inBlk])
      | (refine AWP.condT ?_ ?_; (focus (simp [go_sem, c3, hd]; done)))
      | (refine AWP.condF ?_ ?_; (focus (simp [go_sem, c3, hd]; done)))
      | (apply AWP.rE; (focus (simp [go_sem, c3, hd]; exact ⟨rfl, rfl⟩)); try dsimp only [thn, inBlk])
      | (apply AWP.dE hmix [.n 0 [0], .n 1 [76], .n 2 [77], .n 3 [78], .n 4 [9], .n 5 [4], .n 6 [79, 80], .w 7 [82, 81] []]; (focus kernel_rfl); (focus (simp [go_sem, c3, hd]; exact ⟨rfl, rfl⟩)); try dsimp only [thn, inBlk])
      | (apply AWP.dE hmix [.n 0 [0], .n 1 [0], .n 2 [84], .n 3 [85], .n 4 [86], .n 5 [4], .n 6 [88], .w 7 [87, 89] [], .n 8 [83], .n 9 [91], .w 10 [92, 90] []]; (focus kernel_rfl); (focus (simp [go_sem, c3, hd]; exact ⟨rfl, rfl⟩)); try dsimp only [thn, inBlk])
      | (apply AWP.dE hmix [.n 0 [10], .n 1 [99], .n 2 [100], .n 3 [0, 101], .n 4 [102, 101], .n 5 [103, 101], .n 6 [104, 101], .n 7 [10, 101], .n 8 [105, 106, 101], .n 9 [107, 101], .n 10 [108, 101], .n 11 [109, 101], .n 12 [0, 101], .n 13 [111, 101], .n 14 [112, 101], .n 15 [113, 101], .n 16 [10, 101], .n 17 [115, 101], .n 18 [114, 116, 101], .n 19 [117, 101], .n 20 [118, 101], .n 21 [119, 101], .n 22 [110, 120, 101], .n 23 [101, 121]]; (focus kernel_rfl); (focus (simp [go_sem, c3, hd]; exact ⟨rfl, rfl⟩)); try dsimp only [thn, inBlk])
      | (apply AWP.dE hmix [.n 0 [0], .n 1 [132], .n 2 [133], .n 3 [134], .n 4 [10], .n 5 [0], .n 6 [137], .n 7 [138], .n 8 [139], .n 9 [10], .n 10 [141], .n 11 [140, 142], .n 12 [143], .n 13 [135, 136], .w 14 [145, 144] []]; (focus kernel_rfl); (focus (simp [go_sem, c3, hd]; exact ⟨rfl, rfl⟩)); try dsimp only [thn, inBlk])
      | (apply AWP.dE hmix [.n 0 [0], .n 1 [146], .n 2 [147], .n 3 [148], .n 4 [10], .n 5 [150], .n 6 [11], .n 7 [149, 151], .w 8 [153, 152] []]; (focus kernel_rfl); (focus (simp [go_sem, c3, hd]; exact ⟨rfl, rfl⟩)); try dsimp only [thn, inBlk])
      | fail)
    simp [bodyQ, thn, inBlk, resA, resV, go_sem]
    exact ⟨es, by unfold PutS; rw [if_neg hg, if_pos hd]; exact ⟨rfl, rfl⟩, back k3⟩
  have b0 := build0 (id := hC.next)
  obtain ⟨va, vc, rfl⟩ := k3.b2.os_val
  have k6 : Own O (hC.push (.row [] 34 23 true false)) (crs (.slice (some ⟨hC.next, 0, none⟩) 0 0) [] :: cell h.next (.row (crx e) 34 23 true false) :: cell i (rrow (.slice va es.length vc)) :: crs (.slice va es.length vc) es :: R) := (k3.push (.row [] 34 23 true false)).os_mk (Nat.le_refl _) (by simp) (by simp)
  refine awpL_restE (by simp [go_sem, c3]; exact ⟨rfl, rfl⟩) ?_; try dsimp only [thn, inBlk]
  (repeat' first
    | refine AWP.seq ?_
    | refine AWP.block ?_
    | (refine AWP.skip ?_; try dsimp only [thn, inBlk])
    | (refine AWP.exit ?_; try simp only [thn, inBlk, if_true, reduceIte, Nat.reduceEqDiff])
    | (refine AWP.ret ?_; try dsimp only [thn, inBlk])
    | (refine AWP.condT ?_ ?_; (focus (simp [go_sem, c3, hd, ↓b0]; done)))
    | (refine AWP.condF ?_ ?_; (focus (simp [go_sem, c3, hd, ↓b0]; done)))
    | (apply AWP.rE; (focus (simp [go_sem, c3, hd, ↓b0]; exact ⟨rfl, rfl⟩)); try dsimp only [thn, inBlk])
    | (apply AWP.dE hmix [.n 0 [0], .n 1 [76], .n 2 [77], .n 3 [78], .n 4 [9], .n 5 [4], .n 6 [79, 80], .w 7 [82, 81] []]; (focus kernel_rfl); (focus (simp [go_sem, c3, hd, ↓b0]; exact ⟨rfl, rfl⟩)); try dsimp only [thn, inBlk])
    | (apply AWP.dE hmix [.n 0 [0], .n 1 [0], .n 2 [84], .n 3 [85], .n 4 [86], .n 5 [4], .n 6 [88], .w 7 [87, 89] [], .n 8 [83], .n 9 [91], .w 10 [92, 90] []]; (focus kernel_rfl); (focus (simp [go_sem, c3, hd, ↓b0]; exact ⟨rfl, rfl⟩)); try dsimp only [thn, inBlk])
    | (apply AWP.dE hmix [.n 0 [10], .n 1 [99], .n 2 [100], .n 3 [0, 101], .n 4 [102, 101], .n 5 [103, 101], .n 6 [104, 101], .n 7 [10, 101], .n 8 [105, 106, 101], .n 9 [107, 101], .n 10 [108, 101], .n 11 [109, 101], .n 12 [0, 101], .n 13 [111, 101], .n 14 [112, 101], .n 15 [113, 101], .n 16 [10, 101], .n 17 [115, 101], .n 18 [114, 116, 101], .n 19 [117, 101], .n 20 [118, 101], .n 21 [119, 101], .n 22 [110, 120, 101], .n 23 [101, 121]]; (focus kernel_rfl); (focus (simp [go_sem, c3, hd, ↓b0]; exact ⟨rfl, rfl⟩)); try dsimp only [thn, inBlk])
    | (apply AWP.dE hmix [.n 0 [0], .n 1 [132], .n 2 [133], .n 3 [134], .n 4 [10], .n 5 [0], .n 6 [137], .n 7 [138], .n 8 [139], .n 9 [10], .n 10 [141], .n 11 [140, 142], .n 12 [143], .n 13 [135, 136], .w 14 [145, 144] []]; (focus kernel_rfl); (focus (simp [go_sem, c3, hd, ↓b0]; exact ⟨rfl, rfl⟩)); try dsimp only [thn, inBlk])
    | (apply AWP.dE hmix [.n 0 [0], .n 1 [146], .n 2 [147], .n 3 [148], .n 4 [10], .n 5 [150], .n 6 [11], .n 7 [149, 151], .w 8 [153, 152] []]; (focus kernel_rfl); (focus (simp [go_sem, c3, hd, ↓b0]; exact ⟨rfl, rfl⟩)); try dsimp only [thn, inBlk])
    | fail)
  refine AWP.loopR [0, 2, 4, 7, 8] (fun m s h' => ∃ (j : Nat) (a : Option Addr) (cap : Nat), j ≤ es.length ∧ m = es.length - j ∧ s = ⟨154, [(0, ptr i), (2, .int .i64 now), (4, ptr h.next), (7, .slice a (keepS (es.take j) now).length cap), (8, .int .i64 j)]⟩ ∧
      Own O h' (crs (.slice a (keepS (es.take j) now).length cap) (keepS (es.take j) now) :: cell h.next (.row (crx e) 34 23 true false) :: cell i (rrow (.slice va es.length vc)) :: crs (.slice va es.length vc) es :: R)) ?_ ?_
  · exact ⟨_, 0, some ⟨hC.next, 0, none⟩, 0, by omega, rfl, by simp [go_sem, keepS], by simpa [keepS, crs] using k6⟩
  rintro m s hB ⟨j, a, cap, hj, rfl, rfl, kB⟩
  have ciB := kB.b2.obj
  have hol : (keepS (es.take j) now).length ≤ j := Nat.le_trans (List.length_filter_le _ _) (by rw [List.length_take]; omega)
  by_cases hjm : j < es.length
  · have hjm' : (j : Int) < es.length := by omega
    have hj' : es[j]? = some es[j] := List.getElem?_eq_getElem hjm
    have w1 : IntKind.i64.wrap ((j : Int) + 1) = ((j + 1 : Nat) : Int) := by rw [wI64 (by omega) (by omega)]; omega
    obtain ⟨bi, bo, c, e', sz, ti, ro, q1, q2, q3, q4, q5, q6⟩ := cr_at kB.b3 hj' (kd := .i64)
    have hkt := keep_take (now := now) hj'
    generalize es[j] = x at *
    by_cases hx : now ≤ x.1.g.en
    · rw [if_pos hx] at hkt
      obtain ⟨na, nc, h7, e7, k7⟩ := Own.appN (P := Tryd.prog) (t := 48) (xt := 48) (m := 1) (xs := crx x) (i := hB.next) Tryd.underlying48 tsz34 tby34 tzC nI48 (by omega) (by omega) zC_size kB rfl cr_len cr_ok (by omega)
      have b1 := build1 (id := hB.next) (e := x)
      (repeat' first
        | refine AWP.seq ?_
        | refine AWP.block ?_
        | (refine AWP.skip ?_; try dsimp only [thn, inBlk])
        | (refine AWP.exit ?_; try simp only [thn, inBlk, if_true, reduceIte, Nat.reduceEqDiff])
        | (refine AWP.ret ?_; try dsimp only [thn, inBlk])
        | (refine AWP.condT ?_ ?_; (focus (simp [go_sem, hjm', ciB, w1, q1, q2, q3, q4, q6, hx, ↓b1, e7]; done)))
        | (refine AWP.condF ?_ ?_; (focus (simp [go_sem, hjm', ciB, w1, q1, q2, q3, q4, q6, hx, ↓b1, e7]; done)))
        | (apply AWP.rE; (focus (simp [go_sem, hjm', ciB, w1, q1, q2, q3, q4, q6, hx, ↓b1, e7]; exact ⟨rfl, rfl⟩)); try dsimp only [thn, inBlk])
        | (apply AWP.dE hmix [.n 0 [0], .n 1 [76], .n 2 [77], .n 3 [78], .n 4 [9], .n 5 [4], .n 6 [79, 80], .w 7 [82, 81] []]; (focus kernel_rfl); (focus (simp [go_sem, hjm', ciB, w1, q1, q2, q3, q4, q6, hx, ↓b1, e7]; exact ⟨rfl, rfl⟩)); try dsimp only [thn, inBlk])
        | (apply AWP.dE hmix [.n 0 [0], .n 1 [0], .n 2 [84], .n 3 [85], .n 4 [86], .n 5 [4], .n 6 [88], .w 7 [87, 89] [], .n 8 [83], .n 9 [91], .w 10 [92, 90] []]; (focus kernel_rfl); (focus (simp [go_sem, hjm', ciB, w1, q1, q2, q3, q4, q6, hx, ↓b1, e7]; exact ⟨rfl, rfl⟩)); try dsimp only [thn, inBlk])
        | (apply AWP.dE hmix [.n 0 [10], .n 1 [99], .n 2 [100], .n 3 [0, 101], .n 4 [102, 101], .n 5 [103, 101], .n 6 [104, 101], .n 7 [10, 101], .n 8 [105, 106, 101], .n 9 [107, 101], .n 10 [108, 101], .n 11 [109, 101], .n 12 [0, 101], .n 13 [111, 101], .n 14 [112, 101], .n 15 [113, 101], .n 16 [10, 101], .n 17 [115, 101], .n 18 [114, 116, 101], .n 19 [117, 101], .n 20 [118, 101], .n 21 [119, 101], .n 22 [110, 120, 101], .n 23 [101, 121]]; (focus kernel_rfl); (focus (simp [go_sem, hjm', ciB, w1, q1, q2, q3, q4, q6, hx, ↓b1, e7]; exact ⟨rfl, rfl⟩)); try dsimp only [thn, inBlk])
        | (apply AWP.dE hmix [.n 0 [0], .n 1 [132], .n 2 [133], .n 3 [134], .n 4 [10], .n 5 [0], .n 6 [137], .n 7 [138], .n 8 [139], .n 9 [10], .n 10 [141], .n 11 [140, 142], .n 12 [143], .n 13 [135, 136], .w 14 [145, 144] []]; (focus kernel_rfl); (focus (simp [go_sem, hjm', ciB, w1, q1, q2, q3, q4, q6, hx, ↓b1, e7]; exact ⟨rfl, rfl⟩)); try dsimp only [thn, inBlk])
        | (apply AWP.dE hmix [.n 0 [0], .n 1 [146], .n 2 [147], .n 3 [148], .n 4 [10], .n 5 [150], .n 6 [11], .n 7 [149, 151], .w 8 [153, 152] []]; (focus kernel_rfl); (focus (simp [go_sem, hjm', ciB, w1, q1, q2, q3, q4, q6, hx, ↓b1, e7]; exact ⟨rfl, rfl⟩)); try dsimp only [thn, inBlk])
        | fail)
      refine ⟨es.length - (j + 1), by omega, j + 1, na, nc, by omega, rfl, by simp [go_sem, hkt], ?_⟩
      rw [hkt, List.length_append]
      exact crs_app k7
    · rw [if_neg hx, List.append_nil] at hkt
      (repeat' first
        | refine AWP.seq ?_
        | refine AWP.block ?_
        | (refine AWP.skip ?_; try dsimp only [thn, inBlk])
        | (refine AWP.exit ?_; try simp only [thn, inBlk, if_true, reduceIte, Nat.reduceEqDiff])
        | (refine AWP.ret ?_; try dsimp only [thn, inBlk])
        | (refine AWP.condT ?_ ?_; (focus (simp [go_sem, hjm', ciB, w1, q1, q2, q3, q4, q6, hx]; done)))
        | (refine AWP.condF ?_ ?_; (focus (simp [go_sem, hjm', ciB, w1, q1, q2, q3, q4, q6, hx]; done)))
        | (apply AWP.rE; (focus (simp [go_sem, hjm', ciB, w1, q1, q2, q3, q4, q6, hx]; exact ⟨rfl, rfl⟩)); try dsimp only [thn, inBlk])
        | (apply AWP.dE hmix [.n 0 [0], .n 1 [76], .n 2 [77], .n 3 [78], .n 4 [9], .n 5 [4], .n 6 [79, 80], .w 7 [82, 81] []]; (focus kernel_rfl); (focus (simp [go_sem, hjm', ciB, w1, q1, q2, q3, q4, q6, hx]; exact ⟨rfl, rfl⟩)); try dsimp only [thn, inBlk])
        | (apply AWP.dE hmix [.n 0 [0], .n 1 [0], .n 2 [84], .n 3 [85], .n 4 [86], .n 5 [4], .n 6 [88], .w 7 [87, 89] [], .n 8 [83], .n 9 [91], .w 10 [92, 90] []]; (focus kernel_rfl); (focus (simp [go_sem, hjm', ciB, w1, q1, q2, q3, q4, q6, hx]; exact ⟨rfl, rfl⟩)); try dsimp only [thn, inBlk])
        | (apply AWP.dE hmix [.n 0 [10], .n 1 [99], .n 2 [100], .n 3 [0, 101], .n 4 [102, 101], .n 5 [103, 101], .n 6 [104, 101], .n 7 [10, 101], .n 8 [105, 106, 101], .n 9 [107, 101], .n 10 [108, 101], .n 11 [109, 101], .n 12 [0, 101], .n 13 [111, 101], .n 14 [112, 101], .n 15 [113, 101], .n 16 [10, 101], .n 17 [115, 101], .n 18 [114, 116, 101], .n 19 [117, 101], .n 20 [118, 101], .n 21 [119, 101], .n 22 [110, 120, 101], .n 23 [101, 121]]; (focus kernel_rfl); (focus (simp [go_sem, hjm', ciB, w1, q1, q2, q3, q4, q6, hx]; exact ⟨rfl, rfl⟩)); try dsimp only [thn, inBlk])
        | (apply AWP.dE hmix [.n 0 [0], .n 1 [132], .n 2 [133], .n 3 [134], .n 4 [10], .n 5 [0], .n 6 [137], .n 7 [138], .n 8 [139], .n 9 [10], .n 10 [141], .n 11 [140, 142], .n 12 [143], .n 13 [135, 136], .w 14 [145, 144] []]; (focus kernel_rfl); (focus (simp [go_sem, hjm', ciB, w1, q1, q2, q3, q4, q6, hx]; exact ⟨rfl, rfl⟩)); try dsimp only [thn, inBlk])
        | (apply AWP.dE hmix [.n 0 [0], .n 1 [146], .n 2 [147], .n 3 [148], .n 4 [10], .n 5 [150], .n 6 [11], .n 7 [149, 151], .w 8 [153, 152] []]; (focus kernel_rfl); (focus (simp [go_sem, hjm', ciB, w1, q1, q2, q3, q4, q6, hx]; exact ⟨rfl, rfl⟩)); try dsimp only [thn, inBlk])
        | fail)
      refine ⟨es.length - (j + 1), by omega, j + 1, a, cap, by omega, rfl, by simp [go_sem, hkt], ?_⟩
      rw [hkt]; exact kB
  have hjm' : ¬ (j : Int) < es.length := by omega
  obtain rfl : j = es.length := by omega
  rw [List.take_length] at kB hol ⊢
  have hKm : (keepS es now).length ≤ 1000 := by omega
  have hput : ∀ z es', PutS es e now z es' = PutK (keepS es now) e z es' := by
    intro z es'; unfold PutS; rw [if_neg hg, if_neg hd]
  simp only [hput]
  generalize keepS es now = K at *
  have k8 : Own O _ (cell i (rrow (.slice a K.length cap)) :: crs (.slice a K.length cap) K :: cell h.next (.row (crx e) 34 23 true false) :: R) := (kB.b2.set (rrow (.slice a K.length cap))).d3
  have c8 := k8.b2.obj
  have i8 := k8.obj
  (repeat' first
    | refine AWP.seq ?_
    | refine AWP.block ?_
    | (refine AWP.skip ?_; try dsimp only [thn, inBlk])
    | (refine AWP.exit ?_; try simp only [thn, inBlk, if_true, reduceIte, Nat.reduceEqDiff])
    | (refine AWP.ret ?_; try dsimp only [thn, inBlk])
    | (refine AWP.condT ?_ ?_; (focus (simp [go_sem, hjm', ciB]; done)))
    | (refine AWP.condF ?_ ?_; (focus (simp [go_sem, hjm', ciB]; done)))
    | (apply AWP.rE; (focus (simp [go_sem, hjm', ciB]; exact ⟨rfl, rfl⟩)); try dsimp only [thn, inBlk])
    | (apply AWP.dE hmix [.n 0 [0], .n 1 [76], .n 2 [77], .n 3 [78], .n 4 [9], .n 5 [4], .n 6 [79, 80], .w 7 [82, 81] []]; (focus kernel_rfl); (focus (simp [go_sem, hjm', ciB]; exact ⟨rfl, rfl⟩)); try dsimp only [thn, inBlk])
    | (apply AWP.dE hmix [.n 0 [0], .n 1 [0], .n 2 [84], .n 3 [85], .n 4 [86], .n 5 [4], .n 6 [88], .w 7 [87, 89] [], .n 8 [83], .n 9 [91], .w 10 [92, 90] []]; (focus kernel_rfl); (focus (simp [go_sem, hjm', ciB]; exact ⟨rfl, rfl⟩)); try dsimp only [thn, inBlk])
    | (apply AWP.dE hmix [.n 0 [10], .n 1 [99], .n 2 [100], .n 3 [0, 101], .n 4 [102, 101], .n 5 [103, 101], .n 6 [104, 101], .n 7 [10, 101], .n 8 [105, 106, 101], .n 9 [107, 101], .n 10 [108, 101], .n 11 [109, 101], .n 12 [0, 101], .n 13 [111, 101], .n 14 [112, 101], .n 15 [113, 101], .n 16 [10, 101], .n 17 [115, 101], .n 18 [114, 116, 101], .n 19 [117, 101], .n 20 [118, 101], .n 21 [119, 101], .n 22 [110, 120, 101], .n 23 [101, 121]]; (focus kernel_rfl); (focus (simp [go_sem, hjm', ciB]; exact ⟨rfl, rfl⟩)); try dsimp only [thn, inBlk])
    | (apply AWP.dE hmix [.n 0 [0], .n 1 [132], .n 2 [133], .n 3 [134], .n 4 [10], .n 5 [0], .n 6 [137], .n 7 [138], .n 8 [139], .n 9 [10], .n 10 [141], .n 11 [140, 142], .n 12 [143], .n 13 [135, 136], .w 14 [145, 144] []]; (focus kernel_rfl); (focus (simp [go_sem, hjm', ciB]; exact ⟨rfl, rfl⟩)); try dsimp only [thn, inBlk])
    | (apply AWP.dE hmix [.n 0 [0], .n 1 [146], .n 2 [147], .n 3 [148], .n 4 [10], .n 5 [150], .n 6 [11], .n 7 [149, 151], .w 8 [153, 152] []]; (focus kernel_rfl); (focus (simp [go_sem, hjm', ciB]; exact ⟨rfl, rfl⟩)); try dsimp only [thn, inBlk])
    | fail)
  generalize hB.set i (rrow (.slice a K.length cap)) = hD at *
  refine AWP.callE (by simp [go_sem, c8]; exact ⟨rfl, rfl, rfl, rfl, rfl⟩) (by kernel_rfl) ?_
  refine (at_calls (n := e.1.g.sv) k8 (by omega)).mono ?_
  rintro r h9 ⟨rfl, rfl⟩
  have hK0 : ((K.length : Nat) : Int) = K.length := rfl
  cases hi : idxE K e.1.g.sv with
  | some j =>
    obtain ⟨e0, he, hn0, e1⟩ := idx_some hi
    have hjl : j < K.length := (List.getElem?_eq_some_iff.1 he).1
    have hj0 : (0 : Int) ≤ j := by omega
    have hj1 : ¬ (j : Int) < 0 := by omega
    rw [e1]
    obtain ⟨bi, bo, c, ti, q1, q2, q3, k9⟩ := Own.os_setR (P := Tryd.prog) (t := 48) Tryd.underlying48 tsz34 k8.b1 (j := j) (rs := crx e) hjl cr_len (kd := .i64)
    rw [flat_setL crx_all (by rw [List.length_map]; exact hjl) cr_len, ← List.map_set] at k9
    refine awpL_restE (by simp [go_sem]; exact ⟨rfl, rfl⟩) ?_; try dsimp only [thn, inBlk]
    (repeat' first
      | refine AWP.seq ?_
      | refine AWP.block ?_
      | (refine AWP.skip ?_; try dsimp only [thn, inBlk])
      | (refine AWP.exit ?_; try simp only [thn, inBlk, if_true, reduceIte, Nat.reduceEqDiff])
      | (refine AWP.ret ?_; try dsimp only [thn, inBlk])
      | (refine AWP.condT ?_ ?_; (focus (simp [go_sem, hj1, hj0]; done)))
      | (refine AWP.condF ?_ ?_; (focus (simp [go_sem, hj1, hj0]; done)))
      | (apply AWP.rE; (focus (simp [go_sem, hj1, hj0]; exact ⟨rfl, rfl⟩)); try dsimp only [thn, inBlk])
      | (apply AWP.dE hmix [.n 0 [0], .n 1 [76], .n 2 [77], .n 3 [78], .n 4 [9], .n 5 [4], .n 6 [79, 80], .w 7 [82, 81] []]; (focus kernel_rfl); (focus (simp [go_sem, hj1, hj0]; exact ⟨rfl, rfl⟩)); try dsimp only [thn, inBlk])
      | (apply AWP.dE hmix [.n 0 [0], .n 1 [0], .n 2 [84], .n 3 [85], .n 4 [86], .n 5 [4], .n 6 [88], .w 7 [87, 89] [], .n 8 [83], .n 9 [91], .w 10 [92, 90] []]; (focus kernel_rfl); (focus (simp [go_sem, hj1, hj0]; exact ⟨rfl, rfl⟩)); try dsimp only [thn, inBlk])
      | (apply AWP.dE hmix [.n 0 [10], .n 1 [99], .n 2 [100], .n 3 [0, 101], .n 4 [102, 101], .n 5 [103, 101], .n 6 [104, 101], .n 7 [10, 101], .n 8 [105, 106, 101], .n 9 [107, 101], .n 10 [108, 101], .n 11 [109, 101], .n 12 [0, 101], .n 13 [111, 101], .n 14 [112, 101], .n 15 [113, 101], .n 16 [10, 101], .n 17 [115, 101], .n 18 [114, 116, 101], .n 19 [117, 101], .n 20 [118, 101], .n 21 [119, 101], .n 22 [110, 120, 101], .n 23 [101, 121]]; (focus kernel_rfl); (focus (simp [go_sem, hj1, hj0]; exact ⟨rfl, rfl⟩)); try dsimp only [thn, inBlk])
      | (apply AWP.dE hmix [.n 0 [0], .n 1 [132], .n 2 [133], .n 3 [134], .n 4 [10], .n 5 [0], .n 6 [137], .n 7 [138], .n 8 [139], .n 9 [10], .n 10 [141], .n 11 [140, 142], .n 12 [143], .n 13 [135, 136], .w 14 [145, 144] []]; (focus kernel_rfl); (focus (simp [go_sem, hj1, hj0]; exact ⟨rfl, rfl⟩)); try dsimp only [thn, inBlk])
      | (apply AWP.dE hmix [.n 0 [0], .n 1 [146], .n 2 [147], .n 3 [148], .n 4 [10], .n 5 [150], .n 6 [11], .n 7 [149, 151], .w 8 [153, 152] []]; (focus kernel_rfl); (focus (simp [go_sem, hj1, hj0]; exact ⟨rfl, rfl⟩)); try dsimp only [thn, inBlk])
      | fail)
    refine AWP.draw hmix [.n 0 [0], .n 1 [76], .n 2 [77], .n 3 [78], .n 4 [9], .n 5 [4], .n 6 [79, 80], .w 7 [82, 81] []] (by kernel_rfl) ?_
    refine awpD_writeR 7 (by rfl) (by rfl) (by simp [go_sem, c8, i8, q1, q2, q3]; exact ⟨rfl, rfl, rfl⟩) (by rfl) (by rfl) (by simp [go_sem]) (by simp [go_sem, c8, i8, q1, q2, q3]; exact ⟨rfl, rfl⟩) (by simp [still, go_sem, c8, i8, q1, q2, q3]) ?_
    refine awpD_restR (by rfl) (by simp [go_sem]; exact ⟨rfl, rfl, rfl⟩) ?_; try dsimp only [thn, inBlk]
    (repeat' first
      | refine AWP.seq ?_
      | refine AWP.block ?_
      | (refine AWP.skip ?_; try dsimp only [thn, inBlk])
      | (refine AWP.exit ?_; try simp only [thn, inBlk, if_true, reduceIte, Nat.reduceEqDiff])
      | (refine AWP.ret ?_; try dsimp only [thn, inBlk])
      | (refine AWP.condT ?_ ?_; (focus (simp [go_sem]; done)))
      | (refine AWP.condF ?_ ?_; (focus (simp [go_sem]; done)))
      | (apply AWP.rE; (focus (simp [go_sem]; exact ⟨rfl, rfl⟩)); try dsimp only [thn, inBlk])
      | (apply AWP.dE hmix [.n 0 [0], .n 1 [76], .n 2 [77], .n 3 [78], .n 4 [9], .n 5 [4], .n 6 [79, 80], .w 7 [82, 81] []]; (focus kernel_rfl); (focus (simp [go_sem]; exact ⟨rfl, rfl⟩)); try dsimp only [thn, inBlk])
      | (apply AWP.dE hmix [.n 0 [0], .n 1 [0], .n 2 [84], .n 3 [85], .n 4 [86], .n 5 [4], .n 6 [88], .w 7 [87, 89] [], .n 8 [83], .n 9 [91], .w 10 [92, 90] []]; (focus kernel_rfl); (focus (simp [go_sem]; exact ⟨rfl, rfl⟩)); try dsimp only [thn, inBlk])
      | (apply AWP.dE hmix [.n 0 [10], .n 1 [99], .n 2 [100], .n 3 [0, 101], .n 4 [102, 101], .n 5 [103, 101], .n 6 [104, 101], .n 7 [10, 101], .n 8 [105, 106, 101], .n 9 [107, 101], .n 10 [108, 101], .n 11 [109, 101], .n 12 [0, 101], .n 13 [111, 101], .n 14 [112, 101], .n 15 [113, 101], .n 16 [10, 101], .n 17 [115, 101], .n 18 [114, 116, 101], .n 19 [117, 101], .n 20 [118, 101], .n 21 [119, 101], .n 22 [110, 120, 101], .n 23 [101, 121]]; (focus kernel_rfl); (focus (simp [go_sem]; exact ⟨rfl, rfl⟩)); try dsimp only [thn, inBlk])
      | (apply AWP.dE hmix [.n 0 [0], .n 1 [132], .n 2 [133], .n 3 [134], .n 4 [10], .n 5 [0], .n 6 [137], .n 7 [138], .n 8 [139], .n 9 [10], .n 10 [141], .n 11 [140, 142], .n 12 [143], .n 13 [135, 136], .w 14 [145, 144] []]; (focus kernel_rfl); (focus (simp [go_sem]; exact ⟨rfl, rfl⟩)); try dsimp only [thn, inBlk])
      | (apply AWP.dE hmix [.n 0 [0], .n 1 [146], .n 2 [147], .n 3 [148], .n 4 [10], .n 5 [150], .n 6 [11], .n 7 [149, 151], .w 8 [153, 152] []]; (focus kernel_rfl); (focus (simp [go_sem]; exact ⟨rfl, rfl⟩)); try dsimp only [thn, inBlk])
      | fail)
    simp [bodyQ, thn, inBlk, resA, resV, go_sem]
    refine ⟨K.set j e, by unfold PutK; rw [hi]; exact ⟨rfl, rfl⟩, rcs_iff.2 ⟨.slice a K.length cap, ?_⟩⟩
    exact (crs_get (by simp) k9.d2).b1
  | none =>
    have e1 : idxV K e.1.g.sv = -1 := by simp only [idxV, hi]
    rw [e1]
    by_cases h8 : 8 ≤ K.length
    · have h8' : (8 : Int) ≤ K.length := by omega
      refine awpL_restE (by simp [go_sem]; exact ⟨rfl, rfl⟩) ?_; try dsimp only [thn, inBlk]
      (repeat' first
        | refine AWP.seq ?_
        | refine AWP.block ?_
        | (refine AWP.skip ?_; try dsimp only [thn, inBlk])
        | (refine AWP.exit ?_; try simp only [thn, inBlk, if_true, reduceIte, Nat.reduceEqDiff])
        | (refine AWP.ret ?_; try dsimp only [thn, inBlk])
        | (refine AWP.condT ?_ ?_; (focus (simp [go_sem, h8']; done)))
        | (refine AWP.condF ?_ ?_; (focus (simp [go_sem, h8']; done)))
        | (apply AWP.rE; (focus (simp [go_sem, h8']; exact ⟨rfl, rfl⟩)); try dsimp only [thn, inBlk])
        | (apply AWP.dE hmix [.n 0 [0], .n 1 [76], .n 2 [77], .n 3 [78], .n 4 [9], .n 5 [4], .n 6 [79, 80], .w 7 [82, 81] []]; (focus kernel_rfl); (focus (simp [go_sem, h8']; exact ⟨rfl, rfl⟩)); try dsimp only [thn, inBlk])
        | (apply AWP.dE hmix [.n 0 [0], .n 1 [0], .n 2 [84], .n 3 [85], .n 4 [86], .n 5 [4], .n 6 [88], .w 7 [87, 89] [], .n 8 [83], .n 9 [91], .w 10 [92, 90] []]; (focus kernel_rfl); (focus (simp [go_sem, h8']; exact ⟨rfl, rfl⟩)); try dsimp only [thn, inBlk])
        | (apply AWP.dE hmix [.n 0 [10], .n 1 [99], .n 2 [100], .n 3 [0, 101], .n 4 [102, 101], .n 5 [103, 101], .n 6 [104, 101], .n 7 [10, 101], .n 8 [105, 106, 101], .n 9 [107, 101], .n 10 [108, 101], .n 11 [109, 101], .n 12 [0, 101], .n 13 [111, 101], .n 14 [112, 101], .n 15 [113, 101], .n 16 [10, 101], .n 17 [115, 101], .n 18 [114, 116, 101], .n 19 [117, 101], .n 20 [118, 101], .n 21 [119, 101], .n 22 [110, 120, 101], .n 23 [101, 121]]; (focus kernel_rfl); (focus (simp [go_sem, h8']; exact ⟨rfl, rfl⟩)); try dsimp only [thn, inBlk])
        | (apply AWP.dE hmix [.n 0 [0], .n 1 [132], .n 2 [133], .n 3 [134], .n 4 [10], .n 5 [0], .n 6 [137], .n 7 [138], .n 8 [139], .n 9 [10], .n 10 [141], .n 11 [140, 142], .n 12 [143], .n 13 [135, 136], .w 14 [145, 144] []]; (focus kernel_rfl); (focus (simp [go_sem, h8']; exact ⟨rfl, rfl⟩)); try dsimp only [thn, inBlk])
        | (apply AWP.dE hmix [.n 0 [0], .n 1 [146], .n 2 [147], .n 3 [148], .n 4 [10], .n 5 [150], .n 6 [11], .n 7 [149, 151], .w 8 [153, 152] []]; (focus kernel_rfl); (focus (simp [go_sem, h8']; exact ⟨rfl, rfl⟩)); try dsimp only [thn, inBlk])
        | fail)
      simp [bodyQ, thn, inBlk, resA, resV, go_sem]
      exact ⟨K, by unfold PutK; rw [hi]; simp only [h8, if_true]; exact ⟨trivial, trivial⟩, rcs_iff.2 ⟨_, k8.d2⟩⟩
    have h8' : ¬ (8 : Int) ≤ K.length := by omega
    obtain ⟨na, nc, h10, e10, k10⟩ := Own.appN (P := Tryd.prog) (t := 48) (xt := 48) (m := 1) (xs := crx e) (i := h9.next) Tryd.underlying48 tsz34 tby34 tzC nI48 (by omega) (by omega) zC_size k8.b1 rfl cr_len cr_ok (by omega)
    have b1 := build1 (id := h9.next) (e := e)
    have i10 := k10.b1.obj
    have k11 : Own O (h10.set i (rrow (.slice na (K.length + 1) nc))) (cell i (rrow (.slice na (K.length + 1) nc)) :: crs (.slice na (K.length + 1) nc) (K ++ [e]) :: cell h.next (.row (crx e) 34 23 true false) :: R) := (crs_app k10).b1.set _
    have i11 := k11.obj
    refine awpL_restE (by simp [go_sem]; exact ⟨rfl, rfl⟩) ?_; try dsimp only [thn, inBlk]
    (repeat' first
      | refine AWP.seq ?_
      | refine AWP.block ?_
      | (refine AWP.skip ?_; try dsimp only [thn, inBlk])
      | (refine AWP.exit ?_; try simp only [thn, inBlk, if_true, reduceIte, Nat.reduceEqDiff])
      | (refine AWP.ret ?_; try dsimp only [thn, inBlk])
      | (refine AWP.condT ?_ ?_; (focus (simp [go_sem, h8']; done)))
      | (refine AWP.condF ?_ ?_; (focus (simp [go_sem, h8']; done)))
      | (apply AWP.rE; (focus (simp [go_sem, h8']; exact ⟨rfl, rfl⟩)); try dsimp only [thn, inBlk])
      | (apply AWP.dE hmix [.n 0 [0], .n 1 [76], .n 2 [77], .n 3 [78], .n 4 [9], .n 5 [4], .n 6 [79, 80], .w 7 [82, 81] []]; (focus kernel_rfl); (focus (simp [go_sem, h8']; exact ⟨rfl, rfl⟩)); try dsimp only [thn, inBlk])
      | (apply AWP.dE hmix [.n 0 [0], .n 1 [0], .n 2 [84], .n 3 [85], .n 4 [86], .n 5 [4], .n 6 [88], .w 7 [87, 89] [], .n 8 [83], .n 9 [91], .w 10 [92, 90] []]; (focus kernel_rfl); (focus (simp [go_sem, h8']; exact ⟨rfl, rfl⟩)); try dsimp only [thn, inBlk])
      | (apply AWP.dE hmix [.n 0 [10], .n 1 [99], .n 2 [100], .n 3 [0, 101], .n 4 [102, 101], .n 5 [103, 101], .n 6 [104, 101], .n 7 [10, 101], .n 8 [105, 106, 101], .n 9 [107, 101], .n 10 [108, 101], .n 11 [109, 101], .n 12 [0, 101], .n 13 [111, 101], .n 14 [112, 101], .n 15 [113, 101], .n 16 [10, 101], .n 17 [115, 101], .n 18 [114, 116, 101], .n 19 [117, 101], .n 20 [118, 101], .n 21 [119, 101], .n 22 [110, 120, 101], .n 23 [101, 121]]; (focus kernel_rfl); (focus (simp [go_sem, h8']; exact ⟨rfl, rfl⟩)); try dsimp only [thn, inBlk])
      | (apply AWP.dE hmix [.n 0 [0], .n 1 [132], .n 2 [133], .n 3 [134], .n 4 [10], .n 5 [0], .n 6 [137], .n 7 [138], .n 8 [139], .n 9 [10], .n 10 [141], .n 11 [140, 142], .n 12 [143], .n 13 [135, 136], .w 14 [145, 144] []]; (focus kernel_rfl); (focus (simp [go_sem, h8']; exact ⟨rfl, rfl⟩)); try dsimp only [thn, inBlk])
      | (apply AWP.dE hmix [.n 0 [0], .n 1 [146], .n 2 [147], .n 3 [148], .n 4 [10], .n 5 [150], .n 6 [11], .n 7 [149, 151], .w 8 [153, 152] []]; (focus kernel_rfl); (focus (simp [go_sem, h8']; exact ⟨rfl, rfl⟩)); try dsimp only [thn, inBlk])
      | fail)
    refine AWP.draw hmix [.n 0 [0], .n 1 [0], .n 2 [84], .n 3 [85], .n 4 [86], .n 5 [4], .n 6 [88], .w 7 [87, 89] [], .n 8 [83], .n 9 [91], .w 10 [92, 90] []] (by kernel_rfl) ?_
    refine awpD_writeR 7 (by rfl) (by rfl) (by simp [go_sem, c8, i8, ↓b1, e10, i10]; exact ⟨rfl, rfl, rfl⟩) (by rfl) (by rfl) (by simp [go_sem]) (by simp [go_sem, c8, i8, ↓b1, e10, i10]; exact ⟨rfl, rfl⟩) (by simp [still, go_sem, c8, i8, ↓b1, e10, i10]) ?_
    refine awpD_writeR 2 (by rfl) (by rfl) (by simp [go_sem, i10]; exact ⟨rfl, rfl, rfl⟩) (by rfl) (by rfl) (by simp [go_sem]) (by simp [go_sem, i10]; exact ⟨rfl, rfl⟩) (by simp [still, go_sem, i10]) ?_
    refine awpD_restR (by rfl) (by simp [go_sem]; exact ⟨rfl, rfl, rfl⟩) ?_; try dsimp only [thn, inBlk]
    have wK : IntKind.i64.wrap (K.length : Int) = (K.length : Int) := wI64 (by omega) (by omega)
    (repeat' first
      | refine AWP.seq ?_
      | refine AWP.block ?_
      | (refine AWP.skip ?_; try dsimp only [thn, inBlk])
      | (refine AWP.exit ?_; try simp only [thn, inBlk, if_true, reduceIte, Nat.reduceEqDiff])
      | (refine AWP.ret ?_; try dsimp only [thn, inBlk])
      | (refine AWP.condT ?_ ?_; (focus (simp [go_sem, i11, wK]; done)))
      | (refine AWP.condF ?_ ?_; (focus (simp [go_sem, i11, wK]; done)))
      | (apply AWP.rE; (focus (simp [go_sem, i11, wK]; exact ⟨rfl, rfl⟩)); try dsimp only [thn, inBlk])
      | (apply AWP.dE hmix [.n 0 [0], .n 1 [76], .n 2 [77], .n 3 [78], .n 4 [9], .n 5 [4], .n 6 [79, 80], .w 7 [82, 81] []]; (focus kernel_rfl); (focus (simp [go_sem, i11, wK]; exact ⟨rfl, rfl⟩)); try dsimp only [thn, inBlk])
      | (apply AWP.dE hmix [.n 0 [0], .n 1 [0], .n 2 [84], .n 3 [85], .n 4 [86], .n 5 [4], .n 6 [88], .w 7 [87, 89] [], .n 8 [83], .n 9 [91], .w 10 [92, 90] []]; (focus kernel_rfl); (focus (simp [go_sem, i11, wK]; exact ⟨rfl, rfl⟩)); try dsimp only [thn, inBlk])
      | (apply AWP.dE hmix [.n 0 [10], .n 1 [99], .n 2 [100], .n 3 [0, 101], .n 4 [102, 101], .n 5 [103, 101], .n 6 [104, 101], .n 7 [10, 101], .n 8 [105, 106, 101], .n 9 [107, 101], .n 10 [108, 101], .n 11 [109, 101], .n 12 [0, 101], .n 13 [111, 101], .n 14 [112, 101], .n 15 [113, 101], .n 16 [10, 101], .n 17 [115, 101], .n 18 [114, 116, 101], .n 19 [117, 101], .n 20 [118, 101], .n 21 [119, 101], .n 22 [110, 120, 101], .n 23 [101, 121]]; (focus kernel_rfl); (focus (simp [go_sem, i11, wK]; exact ⟨rfl, rfl⟩)); try dsimp only [thn, inBlk])
      | (apply AWP.dE hmix [.n 0 [0], .n 1 [132], .n 2 [133], .n 3 [134], .n 4 [10], .n 5 [0], .n 6 [137], .n 7 [138], .n 8 [139], .n 9 [10], .n 10 [141], .n 11 [140, 142], .n 12 [143], .n 13 [135, 136], .w 14 [145, 144] []]; (focus kernel_rfl); (focus (simp [go_sem, i11, wK]; exact ⟨rfl, rfl⟩)); try dsimp only [thn, inBlk])
      | (apply AWP.dE hmix [.n 0 [0], .n 1 [146], .n 2 [147], .n 3 [148], .n 4 [10], .n 5 [150], .n 6 [11], .n 7 [149, 151], .w 8 [153, 152] []]; (focus kernel_rfl); (focus (simp [go_sem, i11, wK]; exact ⟨rfl, rfl⟩)); try dsimp only [thn, inBlk])
      | fail)
    generalize hV : Value.slice na (K.length + 1) nc = V at *
    refine AWP.loopR [0, 10] (fun m s h' => ∃ (A B : List CX), m = A.length ∧ K = A ++ B ∧ (∀ b ∈ B, e.1.g.sv < b.1.g.sv) ∧ s = ⟨154, [(0, ptr i), (10, .int .i64 A.length)]⟩ ∧ Own O h' (cell i (rrow V) :: crs V (A ++ e :: B) :: R)) ?_ ?_
    · exact ⟨_, K, [], rfl, by simp, by simp, by simp [go_sem], k11.d2⟩
    rintro m s hE ⟨A, B, rfl, hAB, hB2, rfl, kE⟩
    have fin : ∀ {hh : AHeap}, (∀ x, A.getLast? = some x → ¬ e.1.g.sv < x.1.g.sv) → Own O hh (cell i (rrow V) :: crs V (A ++ e :: B) :: R) → ∃ es', PutK K e 0 es' ∧ Own O hh (rcs i es' :: R) := fun hx kk =>
      ⟨A ++ e :: B, by unfold PutK; rw [hi]; simp only [h8, if_false]; exact ⟨trivial, A, B, hAB, hB2, hx, rfl⟩, rcs_iff.2 ⟨_, kk⟩⟩
    have iE := kE.obj
    rcases List.eq_nil_or_concat A with rfl | ⟨A', x, rfl⟩
    · (repeat' first
        | refine AWP.seq ?_
        | refine AWP.block ?_
        | (refine AWP.skip ?_; try dsimp only [thn, inBlk])
        | (refine AWP.exit ?_; try simp only [thn, inBlk, if_true, reduceIte, Nat.reduceEqDiff])
        | (refine AWP.ret ?_; try dsimp only [thn, inBlk])
        | (refine AWP.condT ?_ ?_; (focus (simp [go_sem, iE]; done)))
        | (refine AWP.condF ?_ ?_; (focus (simp [go_sem, iE]; done)))
        | (apply AWP.rE; (focus (simp [go_sem, iE]; exact ⟨rfl, rfl⟩)); try dsimp only [thn, inBlk])
        | (apply AWP.dE hmix [.n 0 [0], .n 1 [76], .n 2 [77], .n 3 [78], .n 4 [9], .n 5 [4], .n 6 [79, 80], .w 7 [82, 81] []]; (focus kernel_rfl); (focus (simp [go_sem, iE]; exact ⟨rfl, rfl⟩)); try dsimp only [thn, inBlk])
        | (apply AWP.dE hmix [.n 0 [0], .n 1 [0], .n 2 [84], .n 3 [85], .n 4 [86], .n 5 [4], .n 6 [88], .w 7 [87, 89] [], .n 8 [83], .n 9 [91], .w 10 [92, 90] []]; (focus kernel_rfl); (focus (simp [go_sem, iE]; exact ⟨rfl, rfl⟩)); try dsimp only [thn, inBlk])
        | (apply AWP.dE hmix [.n 0 [10], .n 1 [99], .n 2 [100], .n 3 [0, 101], .n 4 [102, 101], .n 5 [103, 101], .n 6 [104, 101], .n 7 [10, 101], .n 8 [105, 106, 101], .n 9 [107, 101], .n 10 [108, 101], .n 11 [109, 101], .n 12 [0, 101], .n 13 [111, 101], .n 14 [112, 101], .n 15 [113, 101], .n 16 [10, 101], .n 17 [115, 101], .n 18 [114, 116, 101], .n 19 [117, 101], .n 20 [118, 101], .n 21 [119, 101], .n 22 [110, 120, 101], .n 23 [101, 121]]; (focus kernel_rfl); (focus (simp [go_sem, iE]; exact ⟨rfl, rfl⟩)); try dsimp only [thn, inBlk])
        | (apply AWP.dE hmix [.n 0 [0], .n 1 [132], .n 2 [133], .n 3 [134], .n 4 [10], .n 5 [0], .n 6 [137], .n 7 [138], .n 8 [139], .n 9 [10], .n 10 [141], .n 11 [140, 142], .n 12 [143], .n 13 [135, 136], .w 14 [145, 144] []]; (focus kernel_rfl); (focus (simp [go_sem, iE]; exact ⟨rfl, rfl⟩)); try dsimp only [thn, inBlk])
        | (apply AWP.dE hmix [.n 0 [0], .n 1 [146], .n 2 [147], .n 3 [148], .n 4 [10], .n 5 [150], .n 6 [11], .n 7 [149, 151], .w 8 [153, 152] []]; (focus kernel_rfl); (focus (simp [go_sem, iE]; exact ⟨rfl, rfl⟩)); try dsimp only [thn, inBlk])
        | fail)
      simp [bodyQ, thn, inBlk, resA, resV, go_sem]
      exact fin (by simp) kE
    rw [List.concat_eq_append] at *
    obtain ⟨p, hp⟩ : ∃ p, p = A'.length := ⟨_, rfl⟩
    obtain ⟨q, hq⟩ : ∃ q, q = p + 1 := ⟨_, rfl⟩
    have hlA : (A' ++ [x]).length = q := by simp; omega
    have hKl : q ≤ K.length := by rw [hAB, List.length_append, hlA]; omega
    rw [hlA]
    have hq0 : (0 : Int) < q := by omega
    have hq0' : 0 < q := by omega
    have wq : IntKind.i64.wrap ((q : Int) - 1) = (p : Int) := by rw [wI64 (by omega) (by omega)]; omega
    have hL : A' ++ [x] ++ e :: B = A' ++ x :: e :: B := by simp
    rw [hL] at kE fin
    have hx1 : (A' ++ x :: e :: B)[q]? = some e := by
      rw [List.getElem?_append_right (by omega), show q - A'.length = 1 by omega]; rfl
    have hx0 : (A' ++ x :: e :: B)[p]? = some x := by
      rw [List.getElem?_append_right (by omega), show p - A'.length = 0 by omega]; rfl
    obtain ⟨b1, o1, c1, _, _, _, _, p1, r1, m1, t1, u1, _⟩ := cr_at kE.b1 hx1 (kd := .i64)
    obtain ⟨b2, o2, c2, _, _, _, _, p2, r2, m2, t2, u2, _⟩ := cr_at kE.b1 hx0 (kd := .i64)
    by_cases hlt : e.1.g.sv < x.1.g.sv
    rotate_left
    · (repeat' first
        | refine AWP.seq ?_
        | refine AWP.block ?_
        | (refine AWP.skip ?_; try dsimp only [thn, inBlk])
        | (refine AWP.exit ?_; try simp only [thn, inBlk, if_true, reduceIte, Nat.reduceEqDiff])
        | (refine AWP.ret ?_; try dsimp only [thn, inBlk])
        | (refine AWP.condT ?_ ?_; (focus (simp [go_sem, iE, hq0, hq0', wq, p1, r1, u1, p2, r2, u2, strA_lss, hlt]; done)))
        | (refine AWP.condF ?_ ?_; (focus (simp [go_sem, iE, hq0, hq0', wq, p1, r1, u1, p2, r2, u2, strA_lss, hlt]; done)))
        | (apply AWP.rE; (focus (simp [go_sem, iE, hq0, hq0', wq, p1, r1, u1, p2, r2, u2, strA_lss, hlt]; exact ⟨rfl, rfl⟩)); try dsimp only [thn, inBlk])
        | (apply AWP.dE hmix [.n 0 [0], .n 1 [76], .n 2 [77], .n 3 [78], .n 4 [9], .n 5 [4], .n 6 [79, 80], .w 7 [82, 81] []]; (focus kernel_rfl); (focus (simp [go_sem, iE, hq0, hq0', wq, p1, r1, u1, p2, r2, u2, strA_lss, hlt]; exact ⟨rfl, rfl⟩)); try dsimp only [thn, inBlk])
        | (apply AWP.dE hmix [.n 0 [0], .n 1 [0], .n 2 [84], .n 3 [85], .n 4 [86], .n 5 [4], .n 6 [88], .w 7 [87, 89] [], .n 8 [83], .n 9 [91], .w 10 [92, 90] []]; (focus kernel_rfl); (focus (simp [go_sem, iE, hq0, hq0', wq, p1, r1, u1, p2, r2, u2, strA_lss, hlt]; exact ⟨rfl, rfl⟩)); try dsimp only [thn, inBlk])
        | (apply AWP.dE hmix [.n 0 [10], .n 1 [99], .n 2 [100], .n 3 [0, 101], .n 4 [102, 101], .n 5 [103, 101], .n 6 [104, 101], .n 7 [10, 101], .n 8 [105, 106, 101], .n 9 [107, 101], .n 10 [108, 101], .n 11 [109, 101], .n 12 [0, 101], .n 13 [111, 101], .n 14 [112, 101], .n 15 [113, 101], .n 16 [10, 101], .n 17 [115, 101], .n 18 [114, 116, 101], .n 19 [117, 101], .n 20 [118, 101], .n 21 [119, 101], .n 22 [110, 120, 101], .n 23 [101, 121]]; (focus kernel_rfl); (focus (simp [go_sem, iE, hq0, hq0', wq, p1, r1, u1, p2, r2, u2, strA_lss, hlt]; exact ⟨rfl, rfl⟩)); try dsimp only [thn, inBlk])
        | (apply AWP.dE hmix [.n 0 [0], .n 1 [132], .n 2 [133], .n 3 [134], .n 4 [10], .n 5 [0], .n 6 [137], .n 7 [138], .n 8 [139], .n 9 [10], .n 10 [141], .n 11 [140, 142], .n 12 [143], .n 13 [135, 136], .w 14 [145, 144] []]; (focus kernel_rfl); (focus (simp [go_sem, iE, hq0, hq0', wq, p1, r1, u1, p2, r2, u2, strA_lss, hlt]; exact ⟨rfl, rfl⟩)); try dsimp only [thn, inBlk])
        | (apply AWP.dE hmix [.n 0 [0], .n 1 [146], .n 2 [147], .n 3 [148], .n 4 [10], .n 5 [150], .n 6 [11], .n 7 [149, 151], .w 8 [153, 152] []]; (focus kernel_rfl); (focus (simp [go_sem, iE, hq0, hq0', wq, p1, r1, u1, p2, r2, u2, strA_lss, hlt]; exact ⟨rfl, rfl⟩)); try dsimp only [thn, inBlk])
        | fail)
      simp [bodyQ, thn, inBlk, resA, resV, go_sem]
      exact fin (fun y hy => by simp at hy; rw [← hy]; exact hlt) kE
    have k12 := kE.push (.row (crx e) 34 23 true false)
    have c12 := k12.obj
    have i12 := k12.b1.obj
    (repeat' first
      | refine AWP.seq ?_
      | refine AWP.block ?_
      | (refine AWP.skip ?_; try dsimp only [thn, inBlk])
      | (refine AWP.exit ?_; try simp only [thn, inBlk, if_true, reduceIte, Nat.reduceEqDiff])
      | (refine AWP.ret ?_; try dsimp only [thn, inBlk])
      | (refine AWP.condT ?_ ?_; (focus (simp [go_sem, iE, hq0, hq0', wq, p1, r1, m1, t1, u1, p2, r2, m2, t2, u2, strA_lss, hlt, ↓allocC, c12, i12]; done)))
      | (refine AWP.condF ?_ ?_; (focus (simp [go_sem, iE, hq0, hq0', wq, p1, r1, m1, t1, u1, p2, r2, m2, t2, u2, strA_lss, hlt, ↓allocC, c12, i12]; done)))
      | (apply AWP.rE; (focus (simp [go_sem, iE, hq0, hq0', wq, p1, r1, m1, t1, u1, p2, r2, m2, t2, u2, strA_lss, hlt, ↓allocC, c12, i12]; exact ⟨rfl, rfl⟩)); try dsimp only [thn, inBlk])
      | (apply AWP.dE hmix [.n 0 [0], .n 1 [76], .n 2 [77], .n 3 [78], .n 4 [9], .n 5 [4], .n 6 [79, 80], .w 7 [82, 81] []]; (focus kernel_rfl); (focus (simp [go_sem, iE, hq0, hq0', wq, p1, r1, m1, t1, u1, p2, r2, m2, t2, u2, strA_lss, hlt, ↓allocC, c12, i12]; exact ⟨rfl, rfl⟩)); try dsimp only [thn, inBlk])
      | (apply AWP.dE hmix [.n 0 [0], .n 1 [0], .n 2 [84], .n 3 [85], .n 4 [86], .n 5 [4], .n 6 [88], .w 7 [87, 89] [], .n 8 [83], .n 9 [91], .w 10 [92, 90] []]; (focus kernel_rfl); (focus (simp [go_sem, iE, hq0, hq0', wq, p1, r1, m1, t1, u1, p2, r2, m2, t2, u2, strA_lss, hlt, ↓allocC, c12, i12]; exact ⟨rfl, rfl⟩)); try dsimp only [thn, inBlk])
      | (apply AWP.dE hmix [.n 0 [10], .n 1 [99], .n 2 [100], .n 3 [0, 101], .n 4 [102, 101], .n 5 [103, 101], .n 6 [104, 101], .n 7 [10, 101], .n 8 [105, 106, 101], .n 9 [107, 101], .n 10 [108, 101], .n 11 [109, 101], .n 12 [0, 101], .n 13 [111, 101], .n 14 [112, 101], .n 15 [113, 101], .n 16 [10, 101], .n 17 [115, 101], .n 18 [114, 116, 101], .n 19 [117, 101], .n 20 [118, 101], .n 21 [119, 101], .n 22 [110, 120, 101], .n 23 [101, 121]]; (focus kernel_rfl); (focus (simp [go_sem, iE, hq0, hq0', wq, p1, r1, m1, t1, u1, p2, r2, m2, t2, u2, strA_lss, hlt, ↓allocC, c12, i12]; exact ⟨rfl, rfl⟩)); try dsimp only [thn, inBlk])
      | (apply AWP.dE hmix [.n 0 [0], .n 1 [132], .n 2 [133], .n 3 [134], .n 4 [10], .n 5 [0], .n 6 [137], .n 7 [138], .n 8 [139], .n 9 [10], .n 10 [141], .n 11 [140, 142], .n 12 [143], .n 13 [135, 136], .w 14 [145, 144] []]; (focus kernel_rfl); (focus (simp [go_sem, iE, hq0, hq0', wq, p1, r1, m1, t1, u1, p2, r2, m2, t2, u2, strA_lss, hlt, ↓allocC, c12, i12]; exact ⟨rfl, rfl⟩)); try dsimp only [thn, inBlk])
      | (apply AWP.dE hmix [.n 0 [0], .n 1 [146], .n 2 [147], .n 3 [148], .n 4 [10], .n 5 [150], .n 6 [11], .n 7 [149, 151], .w 8 [153, 152] []]; (focus kernel_rfl); (focus (simp [go_sem, iE, hq0, hq0', wq, p1, r1, m1, t1, u1, p2, r2, m2, t2, u2, strA_lss, hlt, ↓allocC, c12, i12]; exact ⟨rfl, rfl⟩)); try dsimp only [thn, inBlk])
      | fail)
    have k13 := k12.b2
    have hnl : (A' ++ x :: e :: B).length = K.length + 1 := by rw [hAB]; simp; omega
    have hnq : q < (A' ++ x :: e :: B).length := by omega
    have hnp : p < (A' ++ x :: e :: B).length := by omega
    have hs1 : (A' ++ x :: e :: B).set q x = A' ++ x :: x :: B := by
      rw [List.set_append_right _ _ (by omega), show q - A'.length = 1 by omega]; rfl
    have hs2 : (A' ++ x :: x :: B).set p e = A' ++ e :: x :: B := by
      rw [List.set_append_right _ _ (by omega), show p - A'.length = 0 by omega]; rfl
    obtain ⟨b5, o5, c5, _, _, _, _, p5, r5, m5, t5, _, _⟩ := cr_at k13 hx0 (kd := .i64)
    cases p2.symm.trans p5
    obtain ⟨b3, o3, c3, ti3, p3, r3, m3, k14⟩ := Own.os_setR (P := Tryd.prog) (t := 48) Tryd.underlying48 tsz34 k13 (j := q) (rs := crx x) hnq cr_len (kd := .i64)
    cases p1.symm.trans p3
    rw [flat_setL crx_all (by rw [List.length_map]; exact hnq) cr_len, ← List.map_set, hs1] at k14
    obtain ⟨b4, o4, c4, ti4, p4, r4, m4, k15⟩ := Own.os_setR (P := Tryd.prog) (t := 48) Tryd.underlying48 tsz34 k14 (j := p) (rs := crx e) hnp cr_len (kd := .i64)
    cases p2.symm.trans p4
    rw [flat_setL crx_all (by rw [List.length_map]; simp at hnp ⊢; omega) cr_len, ← List.map_set, hs2] at k15
    have i14 := k14.b2.obj
    have c14 := k14.b1.obj
    generalize hF : (hE.push (.row (crx e) 34 23 true false)).set b1 (.row (setL c3 o1 (crx x)) 34 23 ti3 false) = hG at *
    (repeat' first
      | refine AWP.seq ?_
      | refine AWP.block ?_
      | (refine AWP.skip ?_; try dsimp only [thn, inBlk])
      | (refine AWP.exit ?_; try simp only [thn, inBlk, if_true, reduceIte, Nat.reduceEqDiff])
      | (refine AWP.ret ?_; try dsimp only [thn, inBlk])
      | (refine AWP.condT ?_ ?_; (focus (simp [go_sem, i12, wq, p1, p2, r5, m5, t5, r3, m3, hF]; done)))
      | (refine AWP.condF ?_ ?_; (focus (simp [go_sem, i12, wq, p1, p2, r5, m5, t5, r3, m3, hF]; done)))
      | (apply AWP.rE; (focus (simp [go_sem, i12, wq, p1, p2, r5, m5, t5, r3, m3, hF]; exact ⟨rfl, rfl⟩)); try dsimp only [thn, inBlk])
      | (apply AWP.dE hmix [.n 0 [0], .n 1 [76], .n 2 [77], .n 3 [78], .n 4 [9], .n 5 [4], .n 6 [79, 80], .w 7 [82, 81] []]; (focus kernel_rfl); (focus (simp [go_sem, i12, wq, p1, p2, r5, m5, t5, r3, m3, hF]; exact ⟨rfl, rfl⟩)); try dsimp only [thn, inBlk])
      | (apply AWP.dE hmix [.n 0 [0], .n 1 [0], .n 2 [84], .n 3 [85], .n 4 [86], .n 5 [4], .n 6 [88], .w 7 [87, 89] [], .n 8 [83], .n 9 [91], .w 10 [92, 90] []]; (focus kernel_rfl); (focus (simp [go_sem, i12, wq, p1, p2, r5, m5, t5, r3, m3, hF]; exact ⟨rfl, rfl⟩)); try dsimp only [thn, inBlk])
      | (apply AWP.dE hmix [.n 0 [10], .n 1 [99], .n 2 [100], .n 3 [0, 101], .n 4 [102, 101], .n 5 [103, 101], .n 6 [104, 101], .n 7 [10, 101], .n 8 [105, 106, 101], .n 9 [107, 101], .n 10 [108, 101], .n 11 [109, 101], .n 12 [0, 101], .n 13 [111, 101], .n 14 [112, 101], .n 15 [113, 101], .n 16 [10, 101], .n 17 [115, 101], .n 18 [114, 116, 101], .n 19 [117, 101], .n 20 [118, 101], .n 21 [119, 101], .n 22 [110, 120, 101], .n 23 [101, 121]]; (focus kernel_rfl); (focus (simp [go_sem, i12, wq, p1, p2, r5, m5, t5, r3, m3, hF]; exact ⟨rfl, rfl⟩)); try dsimp only [thn, inBlk])
      | (apply AWP.dE hmix [.n 0 [0], .n 1 [132], .n 2 [133], .n 3 [134], .n 4 [10], .n 5 [0], .n 6 [137], .n 7 [138], .n 8 [139], .n 9 [10], .n 10 [141], .n 11 [140, 142], .n 12 [143], .n 13 [135, 136], .w 14 [145, 144] []]; (focus kernel_rfl); (focus (simp [go_sem, i12, wq, p1, p2, r5, m5, t5, r3, m3, hF]; exact ⟨rfl, rfl⟩)); try dsimp only [thn, inBlk])
      | (apply AWP.dE hmix [.n 0 [0], .n 1 [146], .n 2 [147], .n 3 [148], .n 4 [10], .n 5 [150], .n 6 [11], .n 7 [149, 151], .w 8 [153, 152] []]; (focus kernel_rfl); (focus (simp [go_sem, i12, wq, p1, p2, r5, m5, t5, r3, m3, hF]; exact ⟨rfl, rfl⟩)); try dsimp only [thn, inBlk])
      | fail)
    (repeat' first
      | refine AWP.seq ?_
      | refine AWP.block ?_
      | (refine AWP.skip ?_; try dsimp only [thn, inBlk])
      | (refine AWP.exit ?_; try simp only [thn, inBlk, if_true, reduceIte, Nat.reduceEqDiff])
      | (refine AWP.ret ?_; try dsimp only [thn, inBlk])
      | (refine AWP.condT ?_ ?_; (focus (simp [go_sem, i14, c14, wq, p2, r4, m4]; done)))
      | (refine AWP.condF ?_ ?_; (focus (simp [go_sem, i14, c14, wq, p2, r4, m4]; done)))
      | (apply AWP.rE; (focus (simp [go_sem, i14, c14, wq, p2, r4, m4]; exact ⟨rfl, rfl⟩)); try dsimp only [thn, inBlk])
      | (apply AWP.dE hmix [.n 0 [0], .n 1 [76], .n 2 [77], .n 3 [78], .n 4 [9], .n 5 [4], .n 6 [79, 80], .w 7 [82, 81] []]; (focus kernel_rfl); (focus (simp [go_sem, i14, c14, wq, p2, r4, m4]; exact ⟨rfl, rfl⟩)); try dsimp only [thn, inBlk])
      | (apply AWP.dE hmix [.n 0 [0], .n 1 [0], .n 2 [84], .n 3 [85], .n 4 [86], .n 5 [4], .n 6 [88], .w 7 [87, 89] [], .n 8 [83], .n 9 [91], .w 10 [92, 90] []]; (focus kernel_rfl); (focus (simp [go_sem, i14, c14, wq, p2, r4, m4]; exact ⟨rfl, rfl⟩)); try dsimp only [thn, inBlk])
      | (apply AWP.dE hmix [.n 0 [10], .n 1 [99], .n 2 [100], .n 3 [0, 101], .n 4 [102, 101], .n 5 [103, 101], .n 6 [104, 101], .n 7 [10, 101], .n 8 [105, 106, 101], .n 9 [107, 101], .n 10 [108, 101], .n 11 [109, 101], .n 12 [0, 101], .n 13 [111, 101], .n 14 [112, 101], .n 15 [113, 101], .n 16 [10, 101], .n 17 [115, 101], .n 18 [114, 116, 101], .n 19 [117, 101], .n 20 [118, 101], .n 21 [119, 101], .n 22 [110, 120, 101], .n 23 [101, 121]]; (focus kernel_rfl); (focus (simp [go_sem, i14, c14, wq, p2, r4, m4]; exact ⟨rfl, rfl⟩)); try dsimp only [thn, inBlk])
      | (apply AWP.dE hmix [.n 0 [0], .n 1 [132], .n 2 [133], .n 3 [134], .n 4 [10], .n 5 [0], .n 6 [137], .n 7 [138], .n 8 [139], .n 9 [10], .n 10 [141], .n 11 [140, 142], .n 12 [143], .n 13 [135, 136], .w 14 [145, 144] []]; (focus kernel_rfl); (focus (simp [go_sem, i14, c14, wq, p2, r4, m4]; exact ⟨rfl, rfl⟩)); try dsimp only [thn, inBlk])
      | (apply AWP.dE hmix [.n 0 [0], .n 1 [146], .n 2 [147], .n 3 [148], .n 4 [10], .n 5 [150], .n 6 [11], .n 7 [149, 151], .w 8 [153, 152] []]; (focus kernel_rfl); (focus (simp [go_sem, i14, c14, wq, p2, r4, m4]; exact ⟨rfl, rfl⟩)); try dsimp only [thn, inBlk])
      | fail)
    refine ⟨A'.length, by omega, A', x :: B, rfl, by rw [hAB, List.append_assoc]; rfl, fun b hb => ?_, by rw [← hp]; simp [go_sem], ?_⟩
    · rcases List.mem_cons.1 hb with rfl | hb
      · exact hlt
      · exact hB2 b hb
    · have hn2 : (A' ++ x :: e :: B).length = (A' ++ e :: x :: B).length := by simp
      exact (crs_get hn2 k15.d1).b1
end
end L11
