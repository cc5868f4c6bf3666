import Derived.Test.YteodcjamnfoidaaDoorL19zm
open Go Ab Go.Proofs
namespace L19
set_option autoImplicit false
set_option linter.unusedSimpArgs false
set_option linter.unusedVariables false

/-! ### The same, where the data lie apart -/
section
variable {O : Old} {h : AHeap} {R : List Chunk} {i : Nat} {xs : TL} {zs : List NZ}
theorem nzs_row {v : Value} {j : Nat} {x : List UInt8 × Nd} (hz : zs.map (·.1) = xs) (k : Own O h (nzs v zs :: R)) (hj : xs[j]? = some x) {kd : IntKind} :
    ∃ i off c e' sz' ti ro a cap, indexAddrP Tryd.prog 40 v (.int kd j) = some (.pointer (some ⟨i, off, none⟩)) ∧ h.obj i = some (.row c e' sz' ti ro) ∧ off + 5 ≤ c.length ∧ (c.drop off).take 5 = agN x a cap ∧ c[off]? = some (tx x.1) := by
  rw [← hz, List.getElem?_map, Option.map_eq_some_iff] at hj
  obtain ⟨z, h1, rfl⟩ := hj
  obtain ⟨i, off, c, e', sz', ti, ro, q1, q2, q3, q4, q5⟩ := nz_at k h1 (kd := kd)
  exact ⟨i, off, c, e', sz', ti, ro, z.2.1, z.2.2, q1, q2, q3, q4, q5 0 _ rfl⟩
theorem nzs_val {v : Value} (hz : zs.map (·.1) = xs) (k : Own O h (nzs v zs :: R)) : ∃ a cap, v = .slice a xs.length cap := by
  obtain ⟨a, cap, e⟩ := k.os_val
  exact ⟨a, cap, by rw [e, ← hz, List.length_map]⟩
theorem rat2_calls {p : List UInt8} {v : Value} (hz : zs.map (·.1) = xs) (k : Own O h (cell i (rrow v) :: nzs v zs :: R)) (hm : xs.length ≤ 1000000) :
    ACalls Tryd.prog 46 #[ptr i, tx p] h fun r h' => r = .int .i64 (idxV xs p) ∧ h' = h := by
  refine ACalls.of_awp (args := [ptr i, tx p]) (n := 26) Tryd.func46 rfl rfl (by show 2 ≤ 26; omega) ?_
  obtain ⟨va, vc, rfl⟩ := nzs_val hz k.b1
  have ci := k.obj
  (repeat' first
    | refine AWP.seq ?_
    | refine AWP.block ?_
    | (refine AWP.skip ?_; try dsimp only [thn, inBlk])
    | (refine AWP.exit ?_; try simp only [thn, inBlk, if_true, reduceIte, Nat.reduceEqDiff])
    | (refine AWP.ret ?_; try dsimp only [thn, inBlk])
    | (refine AWP.condT ?_ ?_; (focus (simp [go_sem]; done)))
    | (refine AWP.condF ?_ ?_; (focus (simp [go_sem]; done)))
    | (apply AWP.rE; (focus (simp [go_sem]; exact ⟨rfl, rfl⟩)); try dsimp only [thn, inBlk])
    | fail)
  refine AWP.loopR [0, 1, 5] (fun m s h' => ∃ j : Nat, j ≤ xs.length ∧ m = xs.length - j ∧ s = ⟨26, [(0, ptr i), (1, tx p), (5, .int .i64 j)]⟩ ∧ (∀ x e, x < j → xs[x]? = some e → e.1 ≠ p) ∧ h' = h) ?_ ?_
  · exact ⟨_, 0, by omega, rfl, rfl, fun x e hx => by omega, rfl⟩
  rintro m s hB ⟨j, hj, rfl, rfl, hI, rfl⟩
  by_cases hjm : j < xs.length
  · have hjm' : (j : Int) < xs.length := by omega
    have hj' : xs[j]? = some xs[j] := List.getElem?_eq_getElem hjm
    obtain ⟨bi, bo, c, e', sz, ti, ro, a, cap, q1, q2, q3, q4, q5⟩ := nzs_row hz k.b1 hj' (kd := .i64)
    have w1 : IntKind.i64.wrap ((j : Int) + 1) = ((j + 1 : Nat) : Int) := by rw [wI64 (by omega) (by omega)]; omega
    by_cases hn : xs[j].1 = p
    · have e1 : idxE xs p = some j := by
        unfold idxE
        rw [List.findIdx?_eq_some_iff_getElem]
        exact ⟨hjm, by simpa using hn, fun x hx => by simpa using hI x _ hx (List.getElem?_eq_getElem (by omega))⟩
      have e2 : idxV xs p = j := by simp only [idxV, e1]
      have hn' : (xs[j].1 == p) = true := by simpa using hn
      rw [e2]
      generalize xs[j] = e at *
      (repeat' first
        | refine AWP.seq ?_
        | refine AWP.block ?_
        | (refine AWP.skip ?_; try dsimp only [thn, inBlk])
        | (refine AWP.exit ?_; try simp only [thn, inBlk, if_true, reduceIte, Nat.reduceEqDiff])
        | (refine AWP.ret ?_; try dsimp only [thn, inBlk])
        | (refine AWP.condT ?_ ?_; (focus (simp [go_sem, ci, hjm', q1, q2, q5, hn']; done)))
        | (refine AWP.condF ?_ ?_; (focus (simp [go_sem, ci, hjm', q1, q2, q5, hn']; done)))
        | (apply AWP.rE; (focus (simp [go_sem, ci, hjm', q1, q2, q5, hn']; exact ⟨rfl, rfl⟩)); try dsimp only [thn, inBlk])
        | fail)
      simp [bodyQ, thn, inBlk, resA, resV, go_sem]
    · have hn' : (xs[j].1 == p) = false := by simpa using hn
      generalize xs[j] = e at *
      (repeat' first
        | refine AWP.seq ?_
        | refine AWP.block ?_
        | (refine AWP.skip ?_; try dsimp only [thn, inBlk])
        | (refine AWP.exit ?_; try simp only [thn, inBlk, if_true, reduceIte, Nat.reduceEqDiff])
        | (refine AWP.ret ?_; try dsimp only [thn, inBlk])
        | (refine AWP.condT ?_ ?_; (focus (simp [go_sem, ci, hjm', q1, q2, q5, hn', w1]; done)))
        | (refine AWP.condF ?_ ?_; (focus (simp [go_sem, ci, hjm', q1, q2, q5, hn', w1]; done)))
        | (apply AWP.rE; (focus (simp [go_sem, ci, hjm', q1, q2, q5, hn', w1]; exact ⟨rfl, rfl⟩)); try dsimp only [thn, inBlk])
        | fail)
      refine ⟨xs.length - (j + 1), by omega, j + 1, by omega, rfl, by simp [go_sem], fun x e' hx hx' => ?_, rfl⟩
      by_cases e1 : x = j
      · subst e1; rw [hj'] at hx'; rw [← Option.some.inj hx']; exact hn
      · exact hI x e' (by omega) hx'
  · have hjm' : ¬ (j : Int) < xs.length := by omega
    have e1 : idxE xs p = none := by
      unfold idxE
      rw [List.findIdx?_eq_none_iff]
      intro x hx
      obtain ⟨q, hq⟩ := List.mem_iff_getElem?.1 hx
      simpa using hI q x (by have := (List.getElem?_eq_some_iff.1 hq).1; omega) hq
    have e2 : idxV xs p = -1 := by simp only [idxV, e1]
    rw [e2]
    (repeat' first
      | refine AWP.seq ?_
      | refine AWP.block ?_
      | (refine AWP.skip ?_; try dsimp only [thn, inBlk])
      | (refine AWP.exit ?_; try simp only [thn, inBlk, if_true, reduceIte, Nat.reduceEqDiff])
      | (refine AWP.ret ?_; try dsimp only [thn, inBlk])
      | (refine AWP.condT ?_ ?_; (focus (simp [go_sem, ci, hjm']; done)))
      | (refine AWP.condF ?_ ?_; (focus (simp [go_sem, ci, hjm']; done)))
      | (apply AWP.rE; (focus (simp [go_sem, ci, hjm']; exact ⟨rfl, rfl⟩)); try dsimp only [thn, inBlk])
      | fail)
    simp [bodyQ, thn, inBlk, resA, resV, go_sem]
set_option maxHeartbeats 16000000 in
theorem rcome2_calls {who p : List UInt8} {v : Value} (hX : RX xs) (hz : zs.map (·.1) = xs) (k : Own O h (cell i (rrow v) :: nzs v zs :: R)) (hp : p.length ≤ 100000) :
    ACalls Tryd.prog 45 #[ptr i, tx who, tx p] h fun r h' => r = .int .i64 (comeE xs who p) ∧ Own O h' (cell i (rrow v) :: nzs v zs :: R) := by
  refine ACalls.of_awp (args := [ptr i, tx who, tx p]) (n := 56) Tryd.func45 rfl rfl (by show 3 ≤ 56; omega) ?_
  have hln := hX.ln
  (repeat' first
    | refine AWP.seq ?_
    | refine AWP.block ?_
    | (refine AWP.skip ?_; try dsimp only [thn, inBlk])
    | (refine AWP.exit ?_; try simp only [thn, inBlk, if_true, reduceIte, Nat.reduceEqDiff])
    | (refine AWP.ret ?_; try dsimp only [thn, inBlk])
    | (refine AWP.condT ?_ ?_; (focus (simp [go_sem]; done)))
    | (refine AWP.condF ?_ ?_; (focus (simp [go_sem]; done)))
    | (apply AWP.rE; (focus (simp [go_sem]; exact ⟨rfl, rfl⟩)); try dsimp only [thn, inBlk])
    | fail)
  refine AWP.callE (by simp [go_sem]; exact ⟨rfl, rfl, rfl, rfl, rfl⟩) (by kernel_rfl) ?_
  refine (rpath_calls (l := p) k hp).mono ?_
  rintro r h1 ⟨rfl, k1⟩
  cases hpb : pathB p
  · have e : comeE xs who p = 30 := by simp [comeE, hpb]
    rw [e]
    refine awpL_restE (by simp [go_sem]; exact ⟨rfl, rfl⟩) ?_; try dsimp only [thn, inBlk]
    (repeat' first
      | refine AWP.seq ?_
      | refine AWP.block ?_
      | (refine AWP.skip ?_; try dsimp only [thn, inBlk])
      | (refine AWP.exit ?_; try simp only [thn, inBlk, if_true, reduceIte, Nat.reduceEqDiff])
      | (refine AWP.ret ?_; try dsimp only [thn, inBlk])
      | (refine AWP.condT ?_ ?_; (focus (simp [go_sem]; done)))
      | (refine AWP.condF ?_ ?_; (focus (simp [go_sem]; done)))
      | (apply AWP.rE; (focus (simp [go_sem]; exact ⟨rfl, rfl⟩)); try dsimp only [thn, inBlk])
      | fail)
    simp [bodyQ, thn, inBlk, resA, resV, go_sem]
    exact k1
  have e : comeE xs who p = comeF xs who p p.length 0 := by simp [comeE, hpb]
  rw [e]
  refine awpL_restE (by simp [go_sem]; exact ⟨rfl, rfl⟩) ?_; try dsimp only [thn, inBlk]
  (repeat' first
    | refine AWP.seq ?_
    | refine AWP.block ?_
    | (refine AWP.skip ?_; try dsimp only [thn, inBlk])
    | (refine AWP.exit ?_; try simp only [thn, inBlk, if_true, reduceIte, Nat.reduceEqDiff])
    | (refine AWP.ret ?_; try dsimp only [thn, inBlk])
    | (refine AWP.condT ?_ ?_; (focus (simp [go_sem]; done)))
    | (refine AWP.condF ?_ ?_; (focus (simp [go_sem]; done)))
    | (apply AWP.rE; (focus (simp [go_sem]; exact ⟨rfl, rfl⟩)); try dsimp only [thn, inBlk])
    | fail)
  refine AWP.loopR [0, 1, 2, 7] (fun m s h' => ∃ j : Nat, j ≤ p.length ∧ m = p.length - j ∧ s = ⟨56, [(0, ptr i), (1, tx who), (2, tx p), (7, .int .i64 j)]⟩ ∧ comeF xs who p p.length 0 = comeF xs who p (p.length - j) j ∧ Own O h' (cell i (rrow v) :: nzs v zs :: R)) ?_ ?_
  · exact ⟨_, 0, by omega, rfl, by simp [go_sem], rfl, k1⟩
  rintro m s hB ⟨j, hj, rfl, rfl, hF, kB⟩
  by_cases hjm : j < p.length
  rotate_left
  · have hjm' : ¬ (j : Int) < p.length := by omega
    have e2 : comeF xs who p p.length 0 = 0 := by rw [hF, show p.length - j = 0 by omega, comeF]
    rw [e2]
    (repeat' first
      | refine AWP.seq ?_
      | refine AWP.block ?_
      | (refine AWP.skip ?_; try dsimp only [thn, inBlk])
      | (refine AWP.exit ?_; try simp only [thn, inBlk, if_true, reduceIte, Nat.reduceEqDiff])
      | (refine AWP.ret ?_; try dsimp only [thn, inBlk])
      | (refine AWP.condT ?_ ?_; (focus (simp [go_sem, hjm']; done)))
      | (refine AWP.condF ?_ ?_; (focus (simp [go_sem, hjm']; done)))
      | (apply AWP.rE; (focus (simp [go_sem, hjm']; exact ⟨rfl, rfl⟩)); try dsimp only [thn, inBlk])
      | fail)
    simp [bodyQ, thn, inBlk, resA, resV, go_sem]
    exact kB
  have hjm' : (j : Int) < p.length := by omega
  by_cases htop : p = [47]
  · have htop' : (p != [47]) = false := by simpa using htop
    have htop2 : (p == [47]) = true := by simpa using htop
    have e2 : comeF xs who p p.length 0 = 0 := by rw [htop]; exact comeF_top _ _
    rw [e2]
    (repeat' first
      | refine AWP.seq ?_
      | refine AWP.block ?_
      | (refine AWP.skip ?_; try dsimp only [thn, inBlk])
      | (refine AWP.exit ?_; try simp only [thn, inBlk, if_true, reduceIte, Nat.reduceEqDiff])
      | (refine AWP.ret ?_; try dsimp only [thn, inBlk])
      | (refine AWP.condT ?_ ?_; (focus (simp [go_sem, hjm', htop', htop2]; done)))
      | (refine AWP.condF ?_ ?_; (focus (simp [go_sem, hjm', htop', htop2]; done)))
      | (apply AWP.rE; (focus (simp [go_sem, hjm', htop', htop2]; exact ⟨rfl, rfl⟩)); try dsimp only [thn, inBlk])
      | fail)
    simp [bodyQ, thn, inBlk, resA, resV, go_sem]
    exact kB
  have htop' : (p != [47]) = true := by simpa using htop
  have htop2 : (p == [47]) = false := by simpa using htop
  have w1 : IntKind.i64.wrap ((j : Int) + 1) = ((j + 1 : Nat) : Int) := by rw [wI64 (by omega) (by omega)]; omega
  have x1 : indexP Tryd.prog 9 (tx p) (.int .i64 (j : Int)) = some (.int .u8 p[j].toNat) := str_index Tryd.underlying9 hjm
  have hc : p[j]? = some p[j] := List.getElem?_eq_getElem hjm
  obtain ⟨n, hn⟩ : ∃ n, p.length - j = n + 1 := ⟨p.length - j - 1, by omega⟩
  have hn2 : p.length - (j + 1) = n := by omega
  rw [hn, comeF, hc] at hF
  generalize p[j] = c at x1 hc hF
  by_cases h47 : c = 47
  rotate_left
  · have h47' : ((c.toNat : Int) != 47) = true := by have := neB (d := 47) h47; simp at this ⊢; omega
    rw [if_neg (by intro q; exact h47 (Option.some.inj q.1))] at hF
    (repeat' first
      | refine AWP.seq ?_
      | refine AWP.block ?_
      | (refine AWP.skip ?_; try dsimp only [thn, inBlk])
      | (refine AWP.exit ?_; try simp only [thn, inBlk, if_true, reduceIte, Nat.reduceEqDiff])
      | (refine AWP.ret ?_; try dsimp only [thn, inBlk])
      | (refine AWP.condT ?_ ?_; (focus (simp [go_sem, hjm', htop', htop2, x1, h47', w1]; done)))
      | (refine AWP.condF ?_ ?_; (focus (simp [go_sem, hjm', htop', htop2, x1, h47', w1]; done)))
      | (apply AWP.rE; (focus (simp [go_sem, hjm', htop', htop2, x1, h47', w1]; exact ⟨rfl, rfl⟩)); try dsimp only [thn, inBlk])
      | fail)
    exact ⟨p.length - (j + 1), by omega, j + 1, by omega, rfl, by simp [go_sem], by rw [hF, hn2], kB⟩
  have h47' : ((c.toNat : Int) != 47) = false := by rw [h47]; rfl
  rw [if_pos ⟨by rw [h47], htop⟩] at hF
  obtain ⟨up, hup⟩ : ∃ up, up = p.take (max j 1) := ⟨_, rfl⟩
  rw [← hup] at hF
  have s1 : ∀ hh, sliceR Tryd.prog hh 9 (tx p) none (some (.int .i64 (j : Int))) none = some (tx (p.take j)) := fun hh => by
    have := str_slice (P := Tryd.prog) (h := hh) Tryd.underlying9 (l := p) (lo := 0) (hi := j) (a := none) (u := some (.int .i64 (j : Int))) (by omega) (by omega) (.inl ⟨rfl, rfl⟩) (.inr ⟨.i64, rfl⟩)
    exact this
  (repeat' first
    | refine AWP.seq ?_
    | refine AWP.block ?_
    | (refine AWP.skip ?_; try dsimp only [thn, inBlk])
    | (refine AWP.exit ?_; try simp only [thn, inBlk, if_true, reduceIte, Nat.reduceEqDiff])
    | (refine AWP.ret ?_; try dsimp only [thn, inBlk])
    | (refine AWP.condT ?_ ?_; (focus (simp [go_sem, hjm', htop', htop2, x1, h47', s1]; done)))
    | (refine AWP.condF ?_ ?_; (focus (simp [go_sem, hjm', htop', htop2, x1, h47', s1]; done)))
    | (apply AWP.rE; (focus (simp [go_sem, hjm', htop', htop2, x1, h47', s1]; exact ⟨rfl, rfl⟩)); try dsimp only [thn, inBlk])
    | fail)
  refine AWP.cutT [0, 1, 2, 7, 8] (fun s h' => s = ⟨56, [(0, ptr i), (1, tx who), (2, tx p), (7, .int .i64 j), (8, tx up)]⟩ ∧ h' = hB) ?_ ?_
  · by_cases h0 : j = 0
    · subst h0
      have hu : up = [47] := by
        rw [hup]
        rcases p with _ | ⟨d, p⟩
        · simp at hjm
        · simp at hc; simp [hc, h47]
      rw [hu]
      (repeat' first
        | refine AWP.seq ?_
        | refine AWP.block ?_
        | (refine AWP.skip ?_; try dsimp only [thn, inBlk])
        | (refine AWP.exit ?_; try simp only [thn, inBlk, if_true, reduceIte, Nat.reduceEqDiff])
        | (refine AWP.ret ?_; try dsimp only [thn, inBlk])
        | (refine AWP.condT ?_ ?_; (focus (simp [go_sem]; done)))
        | (refine AWP.condF ?_ ?_; (focus (simp [go_sem]; done)))
        | (apply AWP.rE; (focus (simp [go_sem]; exact ⟨rfl, rfl⟩)); try dsimp only [thn, inBlk])
        | fail)
      exact ⟨by simp [go_sem], rfl⟩
    · have h0' : ((j : Int) == 0) = false := by simp; omega
      have hu : up = p.take j := by rw [hup, show max j 1 = j by omega]
      rw [hu]
      (repeat' first
        | refine AWP.seq ?_
        | refine AWP.block ?_
        | (refine AWP.skip ?_; try dsimp only [thn, inBlk])
        | (refine AWP.exit ?_; try simp only [thn, inBlk, if_true, reduceIte, Nat.reduceEqDiff])
        | (refine AWP.ret ?_; try dsimp only [thn, inBlk])
        | (refine AWP.condT ?_ ?_; (focus (simp [go_sem, h0']; done)))
        | (refine AWP.condF ?_ ?_; (focus (simp [go_sem, h0']; done)))
        | (apply AWP.rE; (focus (simp [go_sem, h0']; exact ⟨rfl, rfl⟩)); try dsimp only [thn, inBlk])
        | fail)
      exact ⟨by simp [go_sem], rfl⟩
  rintro s hC ⟨rfl, rfl⟩
  (repeat' first
    | refine AWP.seq ?_
    | refine AWP.block ?_
    | (refine AWP.skip ?_; try dsimp only [thn, inBlk])
    | (refine AWP.exit ?_; try simp only [thn, inBlk, if_true, reduceIte, Nat.reduceEqDiff])
    | (refine AWP.ret ?_; try dsimp only [thn, inBlk])
    | (refine AWP.condT ?_ ?_; (focus (simp [go_sem]; done)))
    | (refine AWP.condF ?_ ?_; (focus (simp [go_sem]; done)))
    | (apply AWP.rE; (focus (simp [go_sem]; exact ⟨rfl, rfl⟩)); try dsimp only [thn, inBlk])
    | fail)
  refine AWP.callE (by simp [go_sem]; exact ⟨rfl, rfl, rfl, rfl, rfl⟩) (by kernel_rfl) ?_
  refine (rat2_calls (hz := hz) (p := up) kB (by omega)).mono ?_
  rintro r h5 ⟨rfl, rfl⟩
  have ci := kB.obj
  cases hi : idxE xs up with
  | none =>
    obtain ⟨g1, g2⟩ := idx_none hi
    rw [g1] at hF
    dsimp only at hF
    rw [g2, hF]
    refine awpL_restE (by simp [go_sem]; exact ⟨rfl, rfl⟩) ?_; try dsimp only [thn, inBlk]
    (repeat' first
      | refine AWP.seq ?_
      | refine AWP.block ?_
      | (refine AWP.skip ?_; try dsimp only [thn, inBlk])
      | (refine AWP.exit ?_; try simp only [thn, inBlk, if_true, reduceIte, Nat.reduceEqDiff])
      | (refine AWP.ret ?_; try dsimp only [thn, inBlk])
      | (refine AWP.condT ?_ ?_; (focus (simp [go_sem]; done)))
      | (refine AWP.condF ?_ ?_; (focus (simp [go_sem]; done)))
      | (apply AWP.rE; (focus (simp [go_sem]; exact ⟨rfl, rfl⟩)); try dsimp only [thn, inBlk])
      | fail)
    simp [bodyQ, thn, inBlk, resA, resV, go_sem]
    exact kB
  | some q =>
    obtain ⟨nd, g1, g2, g3⟩ := idx_some hi
    rw [g2] at hF
    dsimp only at hF
    rw [g3]
    have hq0 : ¬ (q : Int) < 0 := by omega
    obtain ⟨bi, bo, cc, e', sz, ti, ro, a, cap, q1, q2, q3, q4, q5⟩ := nzs_row hz kB.b1 g1 (kd := .i64)
    have q6 : cc[bo + 1]? = some (.bool nd.dir) := by
      have := congrArg (·[1]?) q4
      simp only [List.getElem?_take, List.getElem?_drop] at this
      simpa [agN] using this
    have hmd := hX.md _ (List.mem_of_getElem? g1)
    obtain ⟨va, vc, rfl⟩ := nzs_val hz kB.b1
    cases hdir : nd.dir
    · rw [if_pos hdir] at hF
      rw [hdir] at q6
      rw [hF]
      refine awpL_restE (by simp [go_sem]; exact ⟨rfl, rfl⟩) ?_; try dsimp only [thn, inBlk]
      (repeat' first
        | refine AWP.seq ?_
        | refine AWP.block ?_
        | (refine AWP.skip ?_; try dsimp only [thn, inBlk])
        | (refine AWP.exit ?_; try simp only [thn, inBlk, if_true, reduceIte, Nat.reduceEqDiff])
        | (refine AWP.ret ?_; try dsimp only [thn, inBlk])
        | (refine AWP.condT ?_ ?_; (focus (simp [go_sem, hq0, ci, q1, q2, q6]; done)))
        | (refine AWP.condF ?_ ?_; (focus (simp [go_sem, hq0, ci, q1, q2, q6]; done)))
        | (apply AWP.rE; (focus (simp [go_sem, hq0, ci, q1, q2, q6]; exact ⟨rfl, rfl⟩)); try dsimp only [thn, inBlk])
        | fail)
      simp [bodyQ, thn, inBlk, resA, resV, go_sem]
      exact kB
    rw [if_neg (by rw [hdir]; decide)] at hF
    rw [hdir] at q6
    refine awpL_restE (by simp [go_sem]; exact ⟨rfl, rfl⟩) ?_; try dsimp only [thn, inBlk]
    (repeat' first
      | refine AWP.seq ?_
      | refine AWP.block ?_
      | (refine AWP.skip ?_; try dsimp only [thn, inBlk])
      | (refine AWP.exit ?_; try simp only [thn, inBlk, if_true, reduceIte, Nat.reduceEqDiff])
      | (refine AWP.ret ?_; try dsimp only [thn, inBlk])
      | (refine AWP.condT ?_ ?_; (focus (simp [go_sem, hq0, ci, q1, q2, q6]; done)))
      | (refine AWP.condF ?_ ?_; (focus (simp [go_sem, hq0, ci, q1, q2, q6]; done)))
      | (apply AWP.rE; (focus (simp [go_sem, hq0, ci, q1, q2, q6]; exact ⟨rfl, rfl⟩)); try dsimp only [thn, inBlk])
      | fail)
    refine AWP.callE (by simp [go_sem, ci, q1, q2, q3, q4]; exact ⟨rfl, rfl, rfl, rfl, rfl⟩) (by kernel_rfl) ?_
    refine (rmay_calls (who := who) (x := (up, nd)) (a := a) (cap := cap) (bit := 1) kB hmd (by simp)).mono ?_
    rintro r h7 ⟨rfl, k7⟩
    dsimp only
    cases hmay : may who nd 1
    · rw [if_pos hmay] at hF
      rw [hF]
      refine awpL_restE (by simp [go_sem]; exact ⟨rfl, rfl⟩) ?_; try dsimp only [thn, inBlk]
      (repeat' first
        | refine AWP.seq ?_
        | refine AWP.block ?_
        | (refine AWP.skip ?_; try dsimp only [thn, inBlk])
        | (refine AWP.exit ?_; try simp only [thn, inBlk, if_true, reduceIte, Nat.reduceEqDiff])
        | (refine AWP.ret ?_; try dsimp only [thn, inBlk])
        | (refine AWP.condT ?_ ?_; (focus (simp [go_sem]; done)))
        | (refine AWP.condF ?_ ?_; (focus (simp [go_sem]; done)))
        | (apply AWP.rE; (focus (simp [go_sem]; exact ⟨rfl, rfl⟩)); try dsimp only [thn, inBlk])
        | fail)
      simp [bodyQ, thn, inBlk, resA, resV, go_sem]
      exact k7
    · rw [if_neg (by rw [hmay]; decide)] at hF
      refine awpL_restE (by simp [go_sem]; exact ⟨rfl, rfl⟩) ?_; try dsimp only [thn, inBlk]
      (repeat' first
        | refine AWP.seq ?_
        | refine AWP.block ?_
        | (refine AWP.skip ?_; try dsimp only [thn, inBlk])
        | (refine AWP.exit ?_; try simp only [thn, inBlk, if_true, reduceIte, Nat.reduceEqDiff])
        | (refine AWP.ret ?_; try dsimp only [thn, inBlk])
        | (refine AWP.condT ?_ ?_; (focus (simp [go_sem, w1]; done)))
        | (refine AWP.condF ?_ ?_; (focus (simp [go_sem, w1]; done)))
        | (apply AWP.rE; (focus (simp [go_sem, w1]; exact ⟨rfl, rfl⟩)); try dsimp only [thn, inBlk])
        | fail)
      exact ⟨p.length - (j + 1), by omega, j + 1, by omega, rfl, by simp [go_sem], by rw [hF, hn2], k7⟩
theorem rfind2_calls {who p : List UInt8} {v : Value} (hX : RX xs) (hz : zs.map (·.1) = xs) (k : Own O h (cell i (rrow v) :: nzs v zs :: R)) (hp : p.length ≤ 100000) :
    ACalls Tryd.prog 49 #[ptr i, tx who, tx p] h fun r h' => r = .tuple #[.int .i64 (if findE xs who p = 0 then idxV xs p else -1), .int .i64 (findE xs who p)] ∧ Own O h' (cell i (rrow v) :: nzs v zs :: R) := by
  refine ACalls.of_awp (args := [ptr i, tx who, tx p]) (n := 23) Tryd.func49 rfl rfl (by show 3 ≤ 23; omega) ?_
  have hln := hX.ln
  (repeat' first
    | refine AWP.seq ?_
    | refine AWP.block ?_
    | (refine AWP.skip ?_; try dsimp only [thn, inBlk])
    | (refine AWP.exit ?_; try simp only [thn, inBlk, if_true, reduceIte, Nat.reduceEqDiff])
    | (refine AWP.ret ?_; try dsimp only [thn, inBlk])
    | (refine AWP.condT ?_ ?_; (focus (simp [go_sem]; done)))
    | (refine AWP.condF ?_ ?_; (focus (simp [go_sem]; done)))
    | (apply AWP.rE; (focus (simp [go_sem]; exact ⟨rfl, rfl⟩)); try dsimp only [thn, inBlk])
    | fail)
  refine AWP.callE (by simp [go_sem]; exact ⟨rfl, rfl, rfl, rfl, rfl⟩) (by kernel_rfl) ?_
  refine (rcome2_calls (hz := hz) (who := who) (p := p) hX k hp).mono ?_
  rintro r h1 ⟨rfl, k1⟩
  unfold findE
  generalize comeE xs who p = z at *
  by_cases hz : z = 0
  rotate_left
  · have hz' : (z != 0) = true := by simpa using hz
    simp only [if_neg hz]
    refine awpL_restE (by simp [go_sem]; exact ⟨rfl, rfl⟩) ?_; try dsimp only [thn, inBlk]
    (repeat' first
      | refine AWP.seq ?_
      | refine AWP.block ?_
      | (refine AWP.skip ?_; try dsimp only [thn, inBlk])
      | (refine AWP.exit ?_; try simp only [thn, inBlk, if_true, reduceIte, Nat.reduceEqDiff])
      | (refine AWP.ret ?_; try dsimp only [thn, inBlk])
      | (refine AWP.condT ?_ ?_; (focus (simp [go_sem, hz']; done)))
      | (refine AWP.condF ?_ ?_; (focus (simp [go_sem, hz']; done)))
      | (apply AWP.rE; (focus (simp [go_sem, hz']; exact ⟨rfl, rfl⟩)); try dsimp only [thn, inBlk])
      | fail)
    simp [bodyQ, thn, inBlk, resA, resV, go_sem]
    exact k1
  subst hz
  refine awpL_restE (by simp [go_sem]; exact ⟨rfl, rfl⟩) ?_; try dsimp only [thn, inBlk]
  (repeat' first
    | refine AWP.seq ?_
    | refine AWP.block ?_
    | (refine AWP.skip ?_; try dsimp only [thn, inBlk])
    | (refine AWP.exit ?_; try simp only [thn, inBlk, if_true, reduceIte, Nat.reduceEqDiff])
    | (refine AWP.ret ?_; try dsimp only [thn, inBlk])
    | (refine AWP.condT ?_ ?_; (focus (simp [go_sem]; done)))
    | (refine AWP.condF ?_ ?_; (focus (simp [go_sem]; done)))
    | (apply AWP.rE; (focus (simp [go_sem]; exact ⟨rfl, rfl⟩)); try dsimp only [thn, inBlk])
    | fail)
  refine AWP.callE (by simp [go_sem]; exact ⟨rfl, rfl, rfl, rfl, rfl⟩) (by kernel_rfl) ?_
  refine (rat2_calls (hz := hz) (p := p) k1 (by omega)).mono ?_
  rintro r h5 ⟨rfl, rfl⟩
  cases hi : idxE xs p with
  | none =>
    obtain ⟨g1, g2⟩ := idx_none hi
    rw [g1, g2]
    refine awpL_restE (by simp [go_sem]; exact ⟨rfl, rfl⟩) ?_; try dsimp only [thn, inBlk]
    (repeat' first
      | refine AWP.seq ?_
      | refine AWP.block ?_
      | (refine AWP.skip ?_; try dsimp only [thn, inBlk])
      | (refine AWP.exit ?_; try simp only [thn, inBlk, if_true, reduceIte, Nat.reduceEqDiff])
      | (refine AWP.ret ?_; try dsimp only [thn, inBlk])
      | (refine AWP.condT ?_ ?_; (focus (simp [go_sem]; done)))
      | (refine AWP.condF ?_ ?_; (focus (simp [go_sem]; done)))
      | (apply AWP.rE; (focus (simp [go_sem]; exact ⟨rfl, rfl⟩)); try dsimp only [thn, inBlk])
      | fail)
    simp [bodyQ, thn, inBlk, resA, resV, go_sem]
    exact k1
  | some q =>
    obtain ⟨nd, g1, g2, g3⟩ := idx_some hi
    have hq0 : ¬ (q : Int) < 0 := by omega
    rw [g2, g3]
    refine awpL_restE (by simp [go_sem]; exact ⟨rfl, rfl⟩) ?_; try dsimp only [thn, inBlk]
    (repeat' first
      | refine AWP.seq ?_
      | refine AWP.block ?_
      | (refine AWP.skip ?_; try dsimp only [thn, inBlk])
      | (refine AWP.exit ?_; try simp only [thn, inBlk, if_true, reduceIte, Nat.reduceEqDiff])
      | (refine AWP.ret ?_; try dsimp only [thn, inBlk])
      | (refine AWP.condT ?_ ?_; (focus (simp [go_sem, hq0]; done)))
      | (refine AWP.condF ?_ ?_; (focus (simp [go_sem, hq0]; done)))
      | (apply AWP.rE; (focus (simp [go_sem, hq0]; exact ⟨rfl, rfl⟩)); try dsimp only [thn, inBlk])
      | fail)
    simp [bodyQ, thn, inBlk, resA, resV, go_sem]
    exact k1
set_option maxHeartbeats 32000000 in
theorem rnames2_calls {q : List UInt8} {v : Value} (hX : RX xs) (hP : ∀ x ∈ xs, pathB x.1 = true ∧ x.1.length ≤ 100000) (hz : zs.map (·.1) = xs) (k : Own O h (cell i (rrow v) :: nzs v zs :: R)) :
    ACalls Tryd.prog 48 #[ptr i, tx q] h fun r h' => ∃ a cap S, r = .slice a S.length cap ∧ S.Perm (kids xs q) ∧ Sd S ∧ Own O h' (txs (.slice a S.length cap) S :: cell i (rrow v) :: nzs v zs :: R) := by
  refine ACalls.of_awp (args := [ptr i, tx q]) (n := 86) Tryd.func48 rfl rfl (by show 2 ≤ 86; omega) ?_
  have hln := hX.ln
  obtain ⟨va, vc, rfl⟩ := nzs_val hz k.b1
  have k1 : Own O _ (txs (.slice (some ⟨h.next, 0, none⟩) 0 0) [] :: cell i (rrow (.slice va xs.length vc)) :: nzs (.slice va xs.length vc) zs :: R) := (k.push (.row [] 9 1 true false)).row_any (n := 0) rfl
  (repeat' first
    | refine AWP.seq ?_
    | refine AWP.block ?_
    | (refine AWP.skip ?_; try dsimp only [thn, inBlk])
    | (refine AWP.exit ?_; try simp only [thn, inBlk, if_true, reduceIte, Nat.reduceEqDiff])
    | (refine AWP.ret ?_; try dsimp only [thn, inBlk])
    | (refine AWP.condT ?_ ?_; (focus (simp [go_sem]; done)))
    | (refine AWP.condF ?_ ?_; (focus (simp [go_sem]; done)))
    | (apply AWP.rE; (focus (simp [go_sem]; exact ⟨rfl, rfl⟩)); try dsimp only [thn, inBlk])
    | (apply AWP.dE hmix [.n 0 [9], .n 1 [52], .n 2 [53], .n 3 [5, 54], .n 4 [9, 54], .n 5 [55, 56, 54], .n 6 [57, 54], .n 7 [5, 54], .n 8 [9, 54], .n 9 [60, 54], .n 10 [59, 61, 54], .n 11 [62, 54], .n 12 [58, 63, 54], .n 13 [54, 64]]; (focus kernel_rfl); (focus (simp [go_sem]; exact ⟨rfl, rfl⟩)); try dsimp only [thn, inBlk])
    | fail)
  refine AWP.loopR [0, 1, 5, 6] (fun m s h' => ∃ (j : Nat) (a : Option Addr) (cap : Nat) (S : List (List UInt8)), j ≤ xs.length ∧ m = xs.length - j ∧ s = ⟨86, [(0, ptr i), (1, tx q), (5, .slice a S.length cap), (6, .int .i64 j)]⟩ ∧ S.Perm (kids (xs.take j) q) ∧ Sd S ∧
      Own O h' (txs (.slice a S.length cap) S :: cell i (rrow (.slice va xs.length vc)) :: nzs (.slice va xs.length vc) zs :: R)) ?_ ?_
  · exact ⟨_, 0, some ⟨h.next, 0, none⟩, 0, [], by omega, rfl, by simp [go_sem], by simp [kids], List.Pairwise.nil, k1⟩
  rintro m s hB ⟨j, a, cap, S, hj, rfl, rfl, hS, hSd, kB⟩
  have ciB := kB.b1.obj
  have hSl : S.length ≤ j := by
    rw [hS.length_eq]
    simp only [kids, List.length_map]
    exact Nat.le_trans (List.length_filter_le _ _) (by rw [List.length_map, List.length_take]; omega)
  by_cases hjm : j < xs.length
  rotate_left
  · have hjm' : ¬ (j : Int) < xs.length := by omega
    obtain rfl : j = xs.length := by omega
    rw [List.take_length] at hS
    (repeat' first
      | refine AWP.seq ?_
      | refine AWP.block ?_
      | (refine AWP.skip ?_; try dsimp only [thn, inBlk])
      | (refine AWP.exit ?_; try simp only [thn, inBlk, if_true, reduceIte, Nat.reduceEqDiff])
      | (refine AWP.ret ?_; try dsimp only [thn, inBlk])
      | (refine AWP.condT ?_ ?_; (focus (simp [go_sem, hjm', ciB]; done)))
      | (refine AWP.condF ?_ ?_; (focus (simp [go_sem, hjm', ciB]; done)))
      | (apply AWP.rE; (focus (simp [go_sem, hjm', ciB]; exact ⟨rfl, rfl⟩)); try dsimp only [thn, inBlk])
      | (apply AWP.dE hmix [.n 0 [9], .n 1 [52], .n 2 [53], .n 3 [5, 54], .n 4 [9, 54], .n 5 [55, 56, 54], .n 6 [57, 54], .n 7 [5, 54], .n 8 [9, 54], .n 9 [60, 54], .n 10 [59, 61, 54], .n 11 [62, 54], .n 12 [58, 63, 54], .n 13 [54, 64]]; (focus kernel_rfl); (focus (simp [go_sem, hjm', ciB]; exact ⟨rfl, rfl⟩)); try dsimp only [thn, inBlk])
      | fail)
    simp [bodyQ, thn, inBlk, resA, resV, go_sem]
    exact ⟨a, cap, S, ⟨rfl, rfl, rfl⟩, hS, hSd, kB⟩
  have hjm' : (j : Int) < xs.length := by omega
  have hj' : xs[j]? = some xs[j] := List.getElem?_eq_getElem hjm
  obtain ⟨hpb, hpl⟩ := hP _ (List.getElem_mem hjm)
  have hkt := kids_take (q := q) hj'
  obtain ⟨bi, bo, cc, e', sz, ti, ro, aa, acap, q1, q2, q3, q4, q5⟩ := nzs_row hz kB.b2 hj' (kd := .i64)
  generalize xs[j] = x at *
  obtain ⟨p, nd⟩ := x
  dsimp only at hpb hpl hkt q5
  have w1 : IntKind.i64.wrap ((j : Int) + 1) = ((j + 1 : Nat) : Int) := by rw [wI64 (by omega) (by omega)]; omega
  by_cases ht : p = [47]
  · have ht' : (p == [47]) = true := by simpa using ht
    have hk : kidP q p = false := by simp [kidP, ht]
    rw [hk] at hkt
    simp only [Bool.false_eq_true, if_false, List.append_nil] at hkt
    (repeat' first
      | refine AWP.seq ?_
      | refine AWP.block ?_
      | (refine AWP.skip ?_; try dsimp only [thn, inBlk])
      | (refine AWP.exit ?_; try simp only [thn, inBlk, if_true, reduceIte, Nat.reduceEqDiff])
      | (refine AWP.ret ?_; try dsimp only [thn, inBlk])
      | (refine AWP.condT ?_ ?_; (focus (simp [go_sem, hjm', ciB, q1, q2, q5, ht', w1]; done)))
      | (refine AWP.condF ?_ ?_; (focus (simp [go_sem, hjm', ciB, q1, q2, q5, ht', w1]; done)))
      | (apply AWP.rE; (focus (simp [go_sem, hjm', ciB, q1, q2, q5, ht', w1]; exact ⟨rfl, rfl⟩)); try dsimp only [thn, inBlk])
      | (apply AWP.dE hmix [.n 0 [9], .n 1 [52], .n 2 [53], .n 3 [5, 54], .n 4 [9, 54], .n 5 [55, 56, 54], .n 6 [57, 54], .n 7 [5, 54], .n 8 [9, 54], .n 9 [60, 54], .n 10 [59, 61, 54], .n 11 [62, 54], .n 12 [58, 63, 54], .n 13 [54, 64]]; (focus kernel_rfl); (focus (simp [go_sem, hjm', ciB, q1, q2, q5, ht', w1]; exact ⟨rfl, rfl⟩)); try dsimp only [thn, inBlk])
      | fail)
    exact ⟨xs.length - (j + 1), by omega, j + 1, a, cap, S, by omega, rfl, by simp [go_sem], by rw [hkt]; exact hS, hSd, kB⟩
  have ht' : (p == [47]) = false := by simpa using ht
  (repeat' first
    | refine AWP.seq ?_
    | refine AWP.block ?_
    | (refine AWP.skip ?_; try dsimp only [thn, inBlk])
    | (refine AWP.exit ?_; try simp only [thn, inBlk, if_true, reduceIte, Nat.reduceEqDiff])
    | (refine AWP.ret ?_; try dsimp only [thn, inBlk])
    | (refine AWP.condT ?_ ?_; (focus (simp [go_sem, hjm', ciB, q1, q2, q5]; done)))
    | (refine AWP.condF ?_ ?_; (focus (simp [go_sem, hjm', ciB, q1, q2, q5]; done)))
    | (apply AWP.rE; (focus (simp [go_sem, hjm', ciB, q1, q2, q5]; exact ⟨rfl, rfl⟩)); try dsimp only [thn, inBlk])
    | (apply AWP.dE hmix [.n 0 [9], .n 1 [52], .n 2 [53], .n 3 [5, 54], .n 4 [9, 54], .n 5 [55, 56, 54], .n 6 [57, 54], .n 7 [5, 54], .n 8 [9, 54], .n 9 [60, 54], .n 10 [59, 61, 54], .n 11 [62, 54], .n 12 [58, 63, 54], .n 13 [54, 64]]; (focus kernel_rfl); (focus (simp [go_sem, hjm', ciB, q1, q2, q5]; exact ⟨rfl, rfl⟩)); try dsimp only [thn, inBlk])
    | fail)
  refine AWP.callE (by simp [go_sem, ht']; exact ⟨rfl, rfl, rfl, rfl, rfl⟩) (by kernel_rfl) ?_
  refine (rpar_calls (l := p) (by omega)).mono ?_
  rintro r h2 ⟨rfl, rfl⟩
  by_cases hpq : par p = q
  rotate_left
  · have hpq' : (par p == q) = false := by simpa using hpq
    have hpqn : (par p != q) = true := by simpa using hpq
    have hk : kidP q p = false := by simp [kidP, hpq]
    rw [hk] at hkt
    simp only [Bool.false_eq_true, if_false, List.append_nil] at hkt
    refine awpL_restE (by simp [go_sem, hpq', hpqn]; exact ⟨rfl, rfl⟩) ?_; try dsimp only [thn, inBlk]
    (repeat' first
      | refine AWP.seq ?_
      | refine AWP.block ?_
      | (refine AWP.skip ?_; try dsimp only [thn, inBlk])
      | (refine AWP.exit ?_; try simp only [thn, inBlk, if_true, reduceIte, Nat.reduceEqDiff])
      | (refine AWP.ret ?_; try dsimp only [thn, inBlk])
      | (refine AWP.condT ?_ ?_; (focus (simp [go_sem, w1]; done)))
      | (refine AWP.condF ?_ ?_; (focus (simp [go_sem, w1]; done)))
      | (apply AWP.rE; (focus (simp [go_sem, w1]; exact ⟨rfl, rfl⟩)); try dsimp only [thn, inBlk])
      | (apply AWP.dE hmix [.n 0 [9], .n 1 [52], .n 2 [53], .n 3 [5, 54], .n 4 [9, 54], .n 5 [55, 56, 54], .n 6 [57, 54], .n 7 [5, 54], .n 8 [9, 54], .n 9 [60, 54], .n 10 [59, 61, 54], .n 11 [62, 54], .n 12 [58, 63, 54], .n 13 [54, 64]]; (focus kernel_rfl); (focus (simp [go_sem, w1]; exact ⟨rfl, rfl⟩)); try dsimp only [thn, inBlk])
      | fail)
    exact ⟨xs.length - (j + 1), by omega, j + 1, a, cap, S, by omega, rfl, by simp [go_sem], by rw [hkt]; exact hS, hSd, kB⟩
  have hpq' : (par p == q) = true := by simpa using hpq
  have hpqn : (par p != q) = false := by simpa using hpq
  have hk : kidP q p = true := by simp [kidP, hpq, ht]
  rw [hk, if_pos rfl] at hkt
  have h0 := pathB_head hpb
  have hp0 : 0 < p.length := by rcases p with _ | ⟨c, p⟩; simp at h0; simp
  have hqp : q.length ≤ p.length := by
    by_cases hq : q = [47]
    · rw [hq]; exact hp0
    · have := (base_sub h0 (by rw [hpq]; exact hq)).1
      rw [hpq] at this; omega
  have s1 : ∀ hh, sliceR Tryd.prog hh 9 (tx p) (some (.int .i64 (q.length : Int))) none none = some (tx (p.drop q.length)) := fun hh => by
    have := str_slice (P := Tryd.prog) (h := hh) Tryd.underlying9 (l := p) (lo := q.length) (hi := p.length) (a := some (.int .i64 (q.length : Int))) (u := none) hqp (by omega) (.inr ⟨.i64, rfl⟩) (.inl ⟨rfl, rfl⟩)
    rw [List.take_length] at this; exact this
  refine awpL_restE (by simp [go_sem, hpq', hpqn]; exact ⟨rfl, rfl⟩) ?_; try dsimp only [thn, inBlk]
  (repeat' first
    | refine AWP.seq ?_
    | refine AWP.block ?_
    | (refine AWP.skip ?_; try dsimp only [thn, inBlk])
    | (refine AWP.exit ?_; try simp only [thn, inBlk, if_true, reduceIte, Nat.reduceEqDiff])
    | (refine AWP.ret ?_; try dsimp only [thn, inBlk])
    | (refine AWP.condT ?_ ?_; (focus (simp [go_sem, s1]; done)))
    | (refine AWP.condF ?_ ?_; (focus (simp [go_sem, s1]; done)))
    | (apply AWP.rE; (focus (simp [go_sem, s1]; exact ⟨rfl, rfl⟩)); try dsimp only [thn, inBlk])
    | (apply AWP.dE hmix [.n 0 [9], .n 1 [52], .n 2 [53], .n 3 [5, 54], .n 4 [9, 54], .n 5 [55, 56, 54], .n 6 [57, 54], .n 7 [5, 54], .n 8 [9, 54], .n 9 [60, 54], .n 10 [59, 61, 54], .n 11 [62, 54], .n 12 [58, 63, 54], .n 13 [54, 64]]; (focus kernel_rfl); (focus (simp [go_sem, s1]; exact ⟨rfl, rfl⟩)); try dsimp only [thn, inBlk])
    | fail)
  refine AWP.cutT [0, 1, 5, 6, 8] (fun s h' => s = ⟨86, [(0, ptr i), (1, tx q), (5, .slice a S.length cap), (6, .int .i64 j), (8, tx (base p))]⟩ ∧ h' = h2) ?_ ?_
  · by_cases hq : q = [47]
    · have hq' : (q == [47]) = true := by simpa using hq
      have hqn : (q != [47]) = false := by simpa using hq
      have hb : base p = p.drop q.length := by rw [base_top hpb (by rw [hpq, hq]) ht, hq]; rfl
      rw [hb]
      (repeat' first
        | refine AWP.seq ?_
        | refine AWP.block ?_
        | (refine AWP.skip ?_; try dsimp only [thn, inBlk])
        | (refine AWP.exit ?_; try simp only [thn, inBlk, if_true, reduceIte, Nat.reduceEqDiff])
        | (refine AWP.ret ?_; try dsimp only [thn, inBlk])
        | (refine AWP.condT ?_ ?_; (focus (simp [go_sem, hq', hqn]; done)))
        | (refine AWP.condF ?_ ?_; (focus (simp [go_sem, hq', hqn]; done)))
        | (apply AWP.rE; (focus (simp [go_sem, hq', hqn]; exact ⟨rfl, rfl⟩)); try dsimp only [thn, inBlk])
        | (apply AWP.dE hmix [.n 0 [9], .n 1 [52], .n 2 [53], .n 3 [5, 54], .n 4 [9, 54], .n 5 [55, 56, 54], .n 6 [57, 54], .n 7 [5, 54], .n 8 [9, 54], .n 9 [60, 54], .n 10 [59, 61, 54], .n 11 [62, 54], .n 12 [58, 63, 54], .n 13 [54, 64]]; (focus kernel_rfl); (focus (simp [go_sem, hq', hqn]; exact ⟨rfl, rfl⟩)); try dsimp only [thn, inBlk])
        | fail)
      exact ⟨by simp [go_sem], rfl⟩
    · have hq' : (q == [47]) = false := by simpa using hq
      have hqn : (q != [47]) = true := by simpa using hq
      obtain ⟨b1, b2⟩ := base_sub h0 (by rw [hpq]; exact hq)
      rw [hpq] at b1 b2
      have s2 : ∀ hh, sliceR Tryd.prog hh 9 (tx (p.drop q.length)) (some (.int .i64 1)) none none = some (tx (base p)) := fun hh => by
        have := str_slice (P := Tryd.prog) (h := hh) Tryd.underlying9 (l := p.drop q.length) (lo := 1) (hi := (p.drop q.length).length) (a := some (.int .i64 1)) (u := none) (by simp; omega) (by omega) (.inr ⟨.i64, rfl⟩) (.inl ⟨rfl, rfl⟩)
        rw [List.take_length, List.drop_drop] at this
        rw [this, b2]
      (repeat' first
        | refine AWP.seq ?_
        | refine AWP.block ?_
        | (refine AWP.skip ?_; try dsimp only [thn, inBlk])
        | (refine AWP.exit ?_; try simp only [thn, inBlk, if_true, reduceIte, Nat.reduceEqDiff])
        | (refine AWP.ret ?_; try dsimp only [thn, inBlk])
        | (refine AWP.condT ?_ ?_; (focus (simp [go_sem, hq', hqn, s2]; done)))
        | (refine AWP.condF ?_ ?_; (focus (simp [go_sem, hq', hqn, s2]; done)))
        | (apply AWP.rE; (focus (simp [go_sem, hq', hqn, s2]; exact ⟨rfl, rfl⟩)); try dsimp only [thn, inBlk])
        | (apply AWP.dE hmix [.n 0 [9], .n 1 [52], .n 2 [53], .n 3 [5, 54], .n 4 [9, 54], .n 5 [55, 56, 54], .n 6 [57, 54], .n 7 [5, 54], .n 8 [9, 54], .n 9 [60, 54], .n 10 [59, 61, 54], .n 11 [62, 54], .n 12 [58, 63, 54], .n 13 [54, 64]]; (focus kernel_rfl); (focus (simp [go_sem, hq', hqn, s2]; exact ⟨rfl, rfl⟩)); try dsimp only [thn, inBlk])
        | fail)
      exact ⟨by simp [go_sem], rfl⟩
  rintro s h3 ⟨rfl, rfl⟩
  generalize base p = x at *
  obtain ⟨na, nc, h7, e7, k7⟩ := Own.appN (P := Tryd.prog) (t := 69) (xt := 69) (m := 1) (xs := [tx x]) (i := h3.next) Tryd.underlying69 tsz9 tby9 tz9 nI69 (by omega) (by omega) (by rfl) kB rfl rfl rfl (by omega)
  have k8 : Own O h7 (os 9 1 (.slice na (S.length + 1) nc) (S.length + 1) ((S ++ [x]).map Ab.T) :: cell i (rrow (.slice va xs.length vc)) :: nzs (.slice va xs.length vc) zs :: R) := by
    have e2 : (S ++ [x]).map T = S.map T ++ [tx x] := by simp [T]
    rw [e2]; exact k7
  have wK : IntKind.i64.wrap (S.length : Int) = (S.length : Int) := wI64 (by omega) (by omega)
  (repeat' first
    | refine AWP.seq ?_
    | refine AWP.block ?_
    | (refine AWP.skip ?_; try dsimp only [thn, inBlk])
    | (refine AWP.exit ?_; try simp only [thn, inBlk, if_true, reduceIte, Nat.reduceEqDiff])
    | (refine AWP.ret ?_; try dsimp only [thn, inBlk])
    | (refine AWP.condT ?_ ?_; (focus (simp [go_sem, e7, wK]; done)))
    | (refine AWP.condF ?_ ?_; (focus (simp [go_sem, e7, wK]; done)))
    | (apply AWP.rE; (focus (simp [go_sem, e7, wK]; exact ⟨rfl, rfl⟩)); try dsimp only [thn, inBlk])
    | (apply AWP.dE hmix [.n 0 [9], .n 1 [52], .n 2 [53], .n 3 [5, 54], .n 4 [9, 54], .n 5 [55, 56, 54], .n 6 [57, 54], .n 7 [5, 54], .n 8 [9, 54], .n 9 [60, 54], .n 10 [59, 61, 54], .n 11 [62, 54], .n 12 [58, 63, 54], .n 13 [54, 64]]; (focus kernel_rfl); (focus (simp [go_sem, e7, wK]; exact ⟨rfl, rfl⟩)); try dsimp only [thn, inBlk])
    | fail)
  generalize hV : Value.slice na (S.length + 1) nc = V at *
  refine AWP.loopR [0, 1, 6, 5, 9] (fun m s h' => ∃ (A B : List (List UInt8)), m = A.length ∧ S = A ++ B ∧ (∀ b ∈ B, x < b) ∧ s = ⟨86, [(0, ptr i), (1, tx q), (6, .int .i64 j), (5, V), (9, .int .i64 A.length)]⟩ ∧ Own O h' (os 9 1 V (S.length + 1) ((A ++ x :: B).map Ab.T) :: cell i (rrow (.slice va xs.length vc)) :: nzs (.slice va xs.length vc) zs :: R)) ?_ ?_
  · exact ⟨_, S, [], rfl, by simp, by simp, by simp [go_sem], k8⟩
  rintro m s hE ⟨A, B, rfl, hAB, hB2, rfl, kE⟩
  have fin : (∀ y, A.getLast? = some y → ¬ x < y) → ∃ (S2 : List (List UInt8)), S2.length = S.length + 1 ∧ S2.Perm (kids (xs.take (j + 1)) q) ∧ Sd S2 ∧ Own O hE (txs (.slice na S2.length nc) S2 :: cell i (rrow (.slice va xs.length vc)) :: nzs (.slice va xs.length vc) zs :: R) := fun hy => by
    have hl : (A ++ x :: B).length = S.length + 1 := by rw [hAB]; simp; omega
    refine ⟨A ++ x :: B, hl, ?_, ?_, ?_⟩
    · rw [hkt]
      refine List.perm_middle.trans ?_
      rw [← hAB]
      exact ((List.Perm.cons x hS).trans (List.perm_append_comm (l₁ := [x])))
    · rw [hAB] at hSd; exact hSd.ins hB2 hy
    · show Own O hE (os 9 1 (.slice na (A ++ x :: B).length nc) (A ++ x :: B).length ((A ++ x :: B).map Ab.T) :: _)
      rw [hl, hV]; exact kE
  rcases List.eq_nil_or_concat A with rfl | ⟨A', y, rfl⟩
  · obtain ⟨S2, hl, f1, f2, f3⟩ := fin (by simp)
    (repeat' first
      | refine AWP.seq ?_
      | refine AWP.block ?_
      | (refine AWP.skip ?_; try dsimp only [thn, inBlk])
      | (refine AWP.exit ?_; try simp only [thn, inBlk, if_true, reduceIte, Nat.reduceEqDiff])
      | (refine AWP.ret ?_; try dsimp only [thn, inBlk])
      | (refine AWP.condT ?_ ?_; (focus (simp [go_sem, w1]; done)))
      | (refine AWP.condF ?_ ?_; (focus (simp [go_sem, w1]; done)))
      | (apply AWP.rE; (focus (simp [go_sem, w1]; exact ⟨rfl, rfl⟩)); try dsimp only [thn, inBlk])
      | (apply AWP.dE hmix [.n 0 [9], .n 1 [52], .n 2 [53], .n 3 [5, 54], .n 4 [9, 54], .n 5 [55, 56, 54], .n 6 [57, 54], .n 7 [5, 54], .n 8 [9, 54], .n 9 [60, 54], .n 10 [59, 61, 54], .n 11 [62, 54], .n 12 [58, 63, 54], .n 13 [54, 64]]; (focus kernel_rfl); (focus (simp [go_sem, w1]; exact ⟨rfl, rfl⟩)); try dsimp only [thn, inBlk])
      | fail)
    exact ⟨xs.length - (j + 1), by omega, j + 1, na, nc, S2, by omega, rfl, by rw [hl, hV]; simp [go_sem], f1, f2, f3⟩
  rw [List.concat_eq_append] at *
  obtain ⟨p1, hp1⟩ : ∃ p, p = A'.length := ⟨_, rfl⟩
  obtain ⟨q9, hq9⟩ : ∃ q, q = p1 + 1 := ⟨_, rfl⟩
  have hlA : (A' ++ [y]).length = q9 := by simp; omega
  have hKl : q9 ≤ S.length := by rw [hAB, List.length_append, hlA]; omega
  rw [hlA]
  have hq0 : (0 : Int) < q9 := by omega
  have hq0' : 0 < q9 := by omega
  have wq : IntKind.i64.wrap ((q9 : Int) - 1) = (p1 : Int) := by rw [wI64 (by omega) (by omega)]; omega
  have hL : A' ++ [y] ++ x :: B = A' ++ y :: x :: B := by simp
  rw [hL] at kE
  have hnl : (A' ++ y :: x :: B).length = S.length + 1 := by rw [hAB]; simp; omega
  have hx1 : ((A' ++ y :: x :: B).map Ab.T)[q9]? = some (tx x) := by
    rw [List.getElem?_map, List.getElem?_append_right (by omega), show q9 - A'.length = 1 by omega]; rfl
  have hx0 : ((A' ++ y :: x :: B).map Ab.T)[p1]? = some (tx y) := by
    rw [List.getElem?_map, List.getElem?_append_right (by omega), show p1 - A'.length = 0 by omega]; rfl
  have hnq : q9 < S.length + 1 := by omega
  have hnp : p1 < S.length + 1 := by omega
  obtain ⟨b1, o1, c1, _, _, _, _, a1, r1, u1⟩ := kE.os_sl.at1 (P := Tryd.prog) (t := 69) Tryd.underlying69 tsz9 hnq hx1 (kd := .i64)
  obtain ⟨b2, o2, c2, _, _, _, _, a2, r2, u2⟩ := kE.os_sl.at1 (P := Tryd.prog) (t := 69) Tryd.underlying69 tsz9 hnp hx0 (kd := .i64)
  by_cases hlt : x < y
  rotate_left
  · obtain ⟨S2, hl, f1, f2, f3⟩ := fin (fun z hz => by simp at hz; rw [← hz]; exact hlt)
    (repeat' first
      | refine AWP.seq ?_
      | refine AWP.block ?_
      | (refine AWP.skip ?_; try dsimp only [thn, inBlk])
      | (refine AWP.exit ?_; try simp only [thn, inBlk, if_true, reduceIte, Nat.reduceEqDiff])
      | (refine AWP.ret ?_; try dsimp only [thn, inBlk])
      | (refine AWP.condT ?_ ?_; (focus (simp [go_sem, hq0, hq0', wq, a1, r1, u1, a2, r2, u2, strA_lss, hlt, w1]; done)))
      | (refine AWP.condF ?_ ?_; (focus (simp [go_sem, hq0, hq0', wq, a1, r1, u1, a2, r2, u2, strA_lss, hlt, w1]; done)))
      | (apply AWP.rE; (focus (simp [go_sem, hq0, hq0', wq, a1, r1, u1, a2, r2, u2, strA_lss, hlt, w1]; exact ⟨rfl, rfl⟩)); try dsimp only [thn, inBlk])
      | (apply AWP.dE hmix [.n 0 [9], .n 1 [52], .n 2 [53], .n 3 [5, 54], .n 4 [9, 54], .n 5 [55, 56, 54], .n 6 [57, 54], .n 7 [5, 54], .n 8 [9, 54], .n 9 [60, 54], .n 10 [59, 61, 54], .n 11 [62, 54], .n 12 [58, 63, 54], .n 13 [54, 64]]; (focus kernel_rfl); (focus (simp [go_sem, hq0, hq0', wq, a1, r1, u1, a2, r2, u2, strA_lss, hlt, w1]; exact ⟨rfl, rfl⟩)); try dsimp only [thn, inBlk])
      | fail)
    exact ⟨xs.length - (j + 1), by omega, j + 1, na, nc, S2, by omega, rfl, by rw [hl, hV]; simp [go_sem], f1, f2, f3⟩
  have hs1 : (A' ++ y :: x :: B).set q9 y = A' ++ y :: y :: B := by
    rw [List.set_append_right _ _ (by omega), show q9 - A'.length = 1 by omega]; rfl
  have hs2 : (A' ++ y :: y :: B).set p1 x = A' ++ x :: y :: B := by
    rw [List.set_append_right _ _ (by omega), show p1 - A'.length = 0 by omega]; rfl
  obtain ⟨b3, o3, c3, ti3, a3, r3, m3, k12⟩ := Own.ts_write (P := Tryd.prog) (t := 69) hnl.symm kE Tryd.underlying69 tsz9 hnq y (kd := .i64)
  cases a1.symm.trans a3
  rw [hs1] at k12
  obtain ⟨b4, o4, c4, ti4, a4, r4, m4, k13⟩ := Own.ts_write (P := Tryd.prog) (t := 69) (by simp at hnl ⊢; omega) k12 Tryd.underlying69 tsz9 hnp x (kd := .i64)
  cases a2.symm.trans a4
  rw [hs2] at k13
  have m3' : o1 + 1 ≤ c3.length := m3
  have m4' : o2 + 1 ≤ c4.length := m4
  cases r1.symm.trans r3
  generalize hG : hE.set b1 (.row (c1.set o1 (.string ⟨y.toArray⟩)) 9 1 _ false) = hF at *
  (repeat' first
    | refine AWP.seq ?_
    | refine AWP.block ?_
    | (refine AWP.skip ?_; try dsimp only [thn, inBlk])
    | (refine AWP.exit ?_; try simp only [thn, inBlk, if_true, reduceIte, Nat.reduceEqDiff])
    | (refine AWP.ret ?_; try dsimp only [thn, inBlk])
    | (refine AWP.condT ?_ ?_; (focus (simp [go_sem, hq0, hq0', wq, a1, r1, u1, a2, r2, u2, strA_lss, hlt, m3', hG, r4, m4']; done)))
    | (refine AWP.condF ?_ ?_; (focus (simp [go_sem, hq0, hq0', wq, a1, r1, u1, a2, r2, u2, strA_lss, hlt, m3', hG, r4, m4']; done)))
    | (apply AWP.rE; (focus (simp [go_sem, hq0, hq0', wq, a1, r1, u1, a2, r2, u2, strA_lss, hlt, m3', hG, r4, m4']; exact ⟨rfl, rfl⟩)); try dsimp only [thn, inBlk])
    | (apply AWP.dE hmix [.n 0 [9], .n 1 [52], .n 2 [53], .n 3 [5, 54], .n 4 [9, 54], .n 5 [55, 56, 54], .n 6 [57, 54], .n 7 [5, 54], .n 8 [9, 54], .n 9 [60, 54], .n 10 [59, 61, 54], .n 11 [62, 54], .n 12 [58, 63, 54], .n 13 [54, 64]]; (focus kernel_rfl); (focus (simp [go_sem, hq0, hq0', wq, a1, r1, u1, a2, r2, u2, strA_lss, hlt, m3', hG, r4, m4']; exact ⟨rfl, rfl⟩)); try dsimp only [thn, inBlk])
    | fail)
  refine ⟨A'.length, by omega, A', y :: B, rfl, by rw [hAB, List.append_assoc]; rfl, fun b hb => ?_, by rw [← hp1]; simp [go_sem], k13⟩
  rcases List.mem_cons.1 hb with rfl | hb
  · exact hlt
  · exact hB2 b hb
end
end L19
