import Derived.Test.YtdbonhhdpaklhaaGreatDoorL23zjx
section
open Go Ab Go.Proofs
namespace L23
set_option autoImplicit false
set_option linter.unusedSimpArgs false
set_option linter.unusedVariables false

/-! ### The same, where the data lie apart -/
section
variable {O : Old} {h : AHeap} {R : List Chunk} {i : Nat} {xs : TL} {zs : List NZ}
theorem nzs_row {v : Value} {j : Nat} {x : List UInt8 × Nd} (hz : zs.map (·.1) = xs) (k : Own O h (nzs v zs :: R)) (hj : xs[j]? = some x) {kd : IntKind} :
    ∃ i off c e' sz' ti ro a cap, indexAddrP Tryz.prog 39 v (.int kd j) = some (.pointer (some ⟨i, off, none⟩)) ∧ h.obj i = some (.row c e' sz' ti ro) ∧ off + 5 ≤ c.length ∧ (c.drop off).take 5 = agN x a cap ∧ c[off]? = some (tx x.1) := by
  rw [← hz, List.getElem?_map, Option.map_eq_some_iff] at hj
  obtain ⟨z, h1, rfl⟩ := hj
  obtain ⟨i, off, c, e', sz', ti, ro, q1, q2, q3, q4, q5⟩ := nz_at k h1 (kd := kd)
  exact ⟨i, off, c, e', sz', ti, ro, z.2.1, z.2.2, q1, q2, q3, q4, q5 0 _ rfl⟩
theorem nzs_val {v : Value} (hz : zs.map (·.1) = xs) (k : Own O h (nzs v zs :: R)) : ∃ a cap, v = .slice a xs.length cap := by
  obtain ⟨a, cap, e⟩ := k.os_val
  exact ⟨a, cap, by rw [e, ← hz, List.length_map]⟩
theorem rat2_calls {p : List UInt8} {v : Value} (hz : zs.map (·.1) = xs) (k : Own O h (cell i (rrow v) :: nzs v zs :: R)) (hm : xs.length ≤ 1000000) :
    ACalls Tryz.prog 41 #[ptr i, tx p] h fun r h' => r = .int .i64 (idxV xs p) ∧ h' = h := by
  refine ACalls.of_awp (args := [ptr i, tx p]) (n := 26) Tryz.func41 rfl rfl (by show 2 ≤ 26; omega) ?_
  obtain ⟨va, vc, rfl⟩ := nzs_val hz k.b1
  have ci := k.obj
  (repeat' first
    | refine AWP.seq ?_
    | refine AWP.block ?_
    | (refine AWP.skip ?_; try dsimp only [thn, inBlk])
    | (refine AWP.exit ?_; try simp only [thn, inBlk, if_true, reduceIte, Nat.reduceEqDiff])
    | (refine AWP.ret ?_; try dsimp only [thn, inBlk])
    | (refine AWP.condT ?_ ?_; (focus (simp [go_sem]; done)))
    | (refine AWP.condF ?_ ?_; (focus (simp [go_sem]; done)))
    | (apply AWP.rE; (focus (simp [go_sem]; exact ⟨rfl, rfl⟩)); try dsimp only [thn, inBlk])
    | fail)
  refine AWP.loopR [0, 1, 5] (fun m s h' => ∃ j : Nat, j ≤ xs.length ∧ m = xs.length - j ∧ s = ⟨26, [(0, ptr i), (1, tx p), (5, .int .i64 j)]⟩ ∧ (∀ x e, x < j → xs[x]? = some e → e.1 ≠ p) ∧ h' = h) ?_ ?_
  · exact ⟨_, 0, by omega, rfl, rfl, fun x e hx => by omega, rfl⟩
  rintro m s hB ⟨j, hj, rfl, rfl, hI, rfl⟩
  by_cases hjm : j < xs.length
  · have hjm' : (j : Int) < xs.length := by omega
    have hj' : xs[j]? = some xs[j] := List.getElem?_eq_getElem hjm
    obtain ⟨bi, bo, c, e', sz, ti, ro, a, cap, q1, q2, q3, q4, q5⟩ := nzs_row hz k.b1 hj' (kd := .i64)
    have w1 : IntKind.i64.wrap ((j : Int) + 1) = ((j + 1 : Nat) : Int) := by rw [wI64 (by omega) (by omega)]; omega
    by_cases hn : xs[j].1 = p
    · have e1 : idxE xs p = some j := by
        unfold idxE
        rw [List.findIdx?_eq_some_iff_getElem]
        exact ⟨hjm, by simpa using hn, fun x hx => by simpa using hI x _ hx (List.getElem?_eq_getElem (by omega))⟩
      have e2 : idxV xs p = j := by simp only [idxV, e1]
      have hn' : (xs[j].1 == p) = true := by simpa using hn
      rw [e2]
      generalize xs[j] = e at *
      (repeat' first
        | refine AWP.seq ?_
        | refine AWP.block ?_
        | (refine AWP.skip ?_; try dsimp only [thn, inBlk])
        | (refine AWP.exit ?_; try simp only [thn, inBlk, if_true, reduceIte, Nat.reduceEqDiff])
        | (refine AWP.ret ?_; try dsimp only [thn, inBlk])
        | (refine AWP.condT ?_ ?_; (focus (simp [go_sem, ci, hjm', q1, q2, q5, hn']; done)))
        | (refine AWP.condF ?_ ?_; (focus (simp [go_sem, ci, hjm', q1, q2, q5, hn']; done)))
        | (apply AWP.rE; (focus (simp [go_sem, ci, hjm', q1, q2, q5, hn']; exact ⟨rfl, rfl⟩)); try dsimp only [thn, inBlk])
        | fail)
      simp [bodyQ, thn, inBlk, resA, resV, go_sem]
    · have hn' : (xs[j].1 == p) = false := by simpa using hn
      generalize xs[j] = e at *
      (repeat' first
        | refine AWP.seq ?_
        | refine AWP.block ?_
        | (refine AWP.skip ?_; try dsimp only [thn, inBlk])
        | (refine AWP.exit ?_; try simp only [thn, inBlk, if_true, reduceIte, Nat.reduceEqDiff])
        | (refine AWP.ret ?_; try dsimp only [thn, inBlk])
        | (refine AWP.condT ?_ ?_; (focus (simp [go_sem, ci, hjm', q1, q2, q5, hn', w1]; done)))
        | (refine AWP.condF ?_ ?_; (focus (simp [go_sem, ci, hjm', q1, q2, q5, hn', w1]; done)))
        | (apply AWP.rE; (focus (simp [go_sem, ci, hjm', q1, q2, q5, hn', w1]; exact ⟨rfl, rfl⟩)); try dsimp only [thn, inBlk])
        | fail)
      refine ⟨xs.length - (j + 1), by omega, j + 1, by omega, rfl, by simp [go_sem], fun x e' hx hx' => ?_, rfl⟩
      by_cases e1 : x = j
      · subst e1; rw [hj'] at hx'; rw [← Option.some.inj hx']; exact hn
      · exact hI x e' (by omega) hx'
  · have hjm' : ¬ (j : Int) < xs.length := by omega
    have e1 : idxE xs p = none := by
      unfold idxE
      rw [List.findIdx?_eq_none_iff]
      intro x hx
      obtain ⟨q, hq⟩ := List.mem_iff_getElem?.1 hx
      simpa using hI q x (by have := (List.getElem?_eq_some_iff.1 hq).1; omega) hq
    have e2 : idxV xs p = -1 := by simp only [idxV, e1]
    rw [e2]
    (repeat' first
      | refine AWP.seq ?_
      | refine AWP.block ?_
      | (refine AWP.skip ?_; try dsimp only [thn, inBlk])
      | (refine AWP.exit ?_; try simp only [thn, inBlk, if_true, reduceIte, Nat.reduceEqDiff])
      | (refine AWP.ret ?_; try dsimp only [thn, inBlk])
      | (refine AWP.condT ?_ ?_; (focus (simp [go_sem, ci, hjm']; done)))
      | (refine AWP.condF ?_ ?_; (focus (simp [go_sem, ci, hjm']; done)))
      | (apply AWP.rE; (focus (simp [go_sem, ci, hjm']; exact ⟨rfl, rfl⟩)); try dsimp only [thn, inBlk])
      | fail)
    simp [bodyQ, thn, inBlk, resA, resV, go_sem]
set_option maxHeartbeats 16000000 in
theorem rcome2_calls {who p : List UInt8} {v : Value} (hX : RX xs) (hz : zs.map (·.1) = xs) (k : Own O h (cell i (rrow v) :: nzs v zs :: R)) (hp : p.length ≤ 100000) :
    ACalls Tryz.prog 40 #[ptr i, tx who, tx p] h fun r h' => r = .int .i64 (comeE xs who p) ∧ Own O h' (cell i (rrow v) :: nzs v zs :: R) := by
  refine ACalls.of_awp (args := [ptr i, tx who, tx p]) (n := 56) Tryz.func40 rfl rfl (by show 3 ≤ 56; omega) ?_
  have hln := hX.ln
  (repeat' first
    | refine AWP.seq ?_
    | refine AWP.block ?_
    | (refine AWP.skip ?_; try dsimp only [thn, inBlk])
    | (refine AWP.exit ?_; try simp only [thn, inBlk, if_true, reduceIte, Nat.reduceEqDiff])
    | (refine AWP.ret ?_; try dsimp only [thn, inBlk])
    | (refine AWP.condT ?_ ?_; (focus (simp [go_sem]; done)))
    | (refine AWP.condF ?_ ?_; (focus (simp [go_sem]; done)))
    | (apply AWP.rE; (focus (simp [go_sem]; exact ⟨rfl, rfl⟩)); try dsimp only [thn, inBlk])
    | fail)
  refine AWP.callE (by simp [go_sem]; exact ⟨rfl, rfl, rfl, rfl, rfl⟩) (by kernel_rfl) ?_
  refine (rpath_calls (l := p) k hp).mono ?_
  rintro r h1 ⟨rfl, k1⟩
  cases hpb : pathB p
  · have e : comeE xs who p = 30 := by simp [comeE, hpb]
    rw [e]
    refine awpL_restE (by simp [go_sem]; exact ⟨rfl, rfl⟩) ?_; try dsimp only [thn, inBlk]
    (repeat' first
      | refine AWP.seq ?_
      | refine AWP.block ?_
      | (refine AWP.skip ?_; try dsimp only [thn, inBlk])
      | (refine AWP.exit ?_; try simp only [thn, inBlk, if_true, reduceIte, Nat.reduceEqDiff])
      | (refine AWP.ret ?_; try dsimp only [thn, inBlk])
      | (refine AWP.condT ?_ ?_; (focus (simp [go_sem]; done)))
      | (refine AWP.condF ?_ ?_; (focus (simp [go_sem]; done)))
      | (apply AWP.rE; (focus (simp [go_sem]; exact ⟨rfl, rfl⟩)); try dsimp only [thn, inBlk])
      | fail)
    simp [bodyQ, thn, inBlk, resA, resV, go_sem]
    exact k1
  have e : comeE xs who p = comeF xs who p p.length 0 := by simp [comeE, hpb]
  rw [e]
  refine awpL_restE (by simp [go_sem]; exact ⟨rfl, rfl⟩) ?_; try dsimp only [thn, inBlk]
  (repeat' first
    | refine AWP.seq ?_
    | refine AWP.block ?_
    | (refine AWP.skip ?_; try dsimp only [thn, inBlk])
    | (refine AWP.exit ?_; try simp only [thn, inBlk, if_true, reduceIte, Nat.reduceEqDiff])
    | (refine AWP.ret ?_; try dsimp only [thn, inBlk])
    | (refine AWP.condT ?_ ?_; (focus (simp [go_sem]; done)))
    | (refine AWP.condF ?_ ?_; (focus (simp [go_sem]; done)))
    | (apply AWP.rE; (focus (simp [go_sem]; exact ⟨rfl, rfl⟩)); try dsimp only [thn, inBlk])
    | fail)
  refine AWP.loopR [0, 1, 2, 7] (fun m s h' => ∃ j : Nat, j ≤ p.length ∧ m = p.length - j ∧ s = ⟨56, [(0, ptr i), (1, tx who), (2, tx p), (7, .int .i64 j)]⟩ ∧ comeF xs who p p.length 0 = comeF xs who p (p.length - j) j ∧ Own O h' (cell i (rrow v) :: nzs v zs :: R)) ?_ ?_
  · exact ⟨_, 0, by omega, rfl, by simp [go_sem], rfl, k1⟩
  rintro m s hB ⟨j, hj, rfl, rfl, hF, kB⟩
  by_cases hjm : j < p.length
  rotate_left
  · have hjm' : ¬ (j : Int) < p.length := by omega
    have e2 : comeF xs who p p.length 0 = 0 := by rw [hF, show p.length - j = 0 by omega, comeF]
    rw [e2]
    (repeat' first
      | refine AWP.seq ?_
      | refine AWP.block ?_
      | (refine AWP.skip ?_; try dsimp only [thn, inBlk])
      | (refine AWP.exit ?_; try simp only [thn, inBlk, if_true, reduceIte, Nat.reduceEqDiff])
      | (refine AWP.ret ?_; try dsimp only [thn, inBlk])
      | (refine AWP.condT ?_ ?_; (focus (simp [go_sem, hjm']; done)))
      | (refine AWP.condF ?_ ?_; (focus (simp [go_sem, hjm']; done)))
      | (apply AWP.rE; (focus (simp [go_sem, hjm']; exact ⟨rfl, rfl⟩)); try dsimp only [thn, inBlk])
      | fail)
    simp [bodyQ, thn, inBlk, resA, resV, go_sem]
    exact kB
  have hjm' : (j : Int) < p.length := by omega
  by_cases htop : p = [47]
  · have htop' : (p != [47]) = false := by simpa using htop
    have htop2 : (p == [47]) = true := by simpa using htop
    have e2 : comeF xs who p p.length 0 = 0 := by rw [htop]; exact comeF_top _ _
    rw [e2]
    (repeat' first
      | refine AWP.seq ?_
      | refine AWP.block ?_
      | (refine AWP.skip ?_; try dsimp only [thn, inBlk])
      | (refine AWP.exit ?_; try simp only [thn, inBlk, if_true, reduceIte, Nat.reduceEqDiff])
      | (refine AWP.ret ?_; try dsimp only [thn, inBlk])
      | (refine AWP.condT ?_ ?_; (focus (simp [go_sem, hjm', htop', htop2]; done)))
      | (refine AWP.condF ?_ ?_; (focus (simp [go_sem, hjm', htop', htop2]; done)))
      | (apply AWP.rE; (focus (simp [go_sem, hjm', htop', htop2]; exact ⟨rfl, rfl⟩)); try dsimp only [thn, inBlk])
      | fail)
    simp [bodyQ, thn, inBlk, resA, resV, go_sem]
    exact kB
  have htop' : (p != [47]) = true := by simpa using htop
  have htop2 : (p == [47]) = false := by simpa using htop
  have w1 : IntKind.i64.wrap ((j : Int) + 1) = ((j + 1 : Nat) : Int) := by rw [wI64 (by omega) (by omega)]; omega
  have x1 : indexP Tryz.prog 9 (tx p) (.int .i64 (j : Int)) = some (.int .u8 p[j].toNat) := str_index Tryz.underlying9 hjm
  have hc : p[j]? = some p[j] := List.getElem?_eq_getElem hjm
  obtain ⟨n, hn⟩ : ∃ n, p.length - j = n + 1 := ⟨p.length - j - 1, by omega⟩
  have hn2 : p.length - (j + 1) = n := by omega
  rw [hn, comeF, hc] at hF
  generalize p[j] = c at x1 hc hF
  by_cases h47 : c = 47
  rotate_left
  · have h47' : ((c.toNat : Int) != 47) = true := by have := neB (d := 47) h47; simp at this ⊢; omega
    rw [if_neg (by intro q; exact h47 (Option.some.inj q.1))] at hF
    (repeat' first
      | refine AWP.seq ?_
      | refine AWP.block ?_
      | (refine AWP.skip ?_; try dsimp only [thn, inBlk])
      | (refine AWP.exit ?_; try simp only [thn, inBlk, if_true, reduceIte, Nat.reduceEqDiff])
      | (refine AWP.ret ?_; try dsimp only [thn, inBlk])
      | (refine AWP.condT ?_ ?_; (focus (simp [go_sem, hjm', htop', htop2, x1, h47', w1]; done)))
      | (refine AWP.condF ?_ ?_; (focus (simp [go_sem, hjm', htop', htop2, x1, h47', w1]; done)))
      | (apply AWP.rE; (focus (simp [go_sem, hjm', htop', htop2, x1, h47', w1]; exact ⟨rfl, rfl⟩)); try dsimp only [thn, inBlk])
      | fail)
    exact ⟨p.length - (j + 1), by omega, j + 1, by omega, rfl, by simp [go_sem], by rw [hF, hn2], kB⟩
  have h47' : ((c.toNat : Int) != 47) = false := by rw [h47]; rfl
  rw [if_pos ⟨by rw [h47], htop⟩] at hF
  obtain ⟨up, hup⟩ : ∃ up, up = p.take (max j 1) := ⟨_, rfl⟩
  rw [← hup] at hF
  have s1 : ∀ hh, sliceR Tryz.prog hh 9 (tx p) none (some (.int .i64 (j : Int))) none = some (tx (p.take j)) := fun hh => by
    have := str_slice (P := Tryz.prog) (h := hh) Tryz.underlying9 (l := p) (lo := 0) (hi := j) (a := none) (u := some (.int .i64 (j : Int))) (by omega) (by omega) (.inl ⟨rfl, rfl⟩) (.inr ⟨.i64, rfl⟩)
    exact this
  (repeat' first
    | refine AWP.seq ?_
    | refine AWP.block ?_
    | (refine AWP.skip ?_; try dsimp only [thn, inBlk])
    | (refine AWP.exit ?_; try simp only [thn, inBlk, if_true, reduceIte, Nat.reduceEqDiff])
    | (refine AWP.ret ?_; try dsimp only [thn, inBlk])
    | (refine AWP.condT ?_ ?_; (focus (simp [go_sem, hjm', htop', htop2, x1, h47', s1]; done)))
    | (refine AWP.condF ?_ ?_; (focus (simp [go_sem, hjm', htop', htop2, x1, h47', s1]; done)))
    | (apply AWP.rE; (focus (simp [go_sem, hjm', htop', htop2, x1, h47', s1]; exact ⟨rfl, rfl⟩)); try dsimp only [thn, inBlk])
    | fail)
  refine AWP.cutT [0, 1, 2, 7, 8] (fun s h' => s = ⟨56, [(0, ptr i), (1, tx who), (2, tx p), (7, .int .i64 j), (8, tx up)]⟩ ∧ h' = hB) ?_ ?_
  · by_cases h0 : j = 0
    · subst h0
      have hu : up = [47] := by
        rw [hup]
        rcases p with _ | ⟨d, p⟩
        · simp at hjm
        · simp at hc; simp [hc, h47]
      rw [hu]
      (repeat' first
        | refine AWP.seq ?_
        | refine AWP.block ?_
        | (refine AWP.skip ?_; try dsimp only [thn, inBlk])
        | (refine AWP.exit ?_; try simp only [thn, inBlk, if_true, reduceIte, Nat.reduceEqDiff])
        | (refine AWP.ret ?_; try dsimp only [thn, inBlk])
        | (refine AWP.condT ?_ ?_; (focus (simp [go_sem]; done)))
        | (refine AWP.condF ?_ ?_; (focus (simp [go_sem]; done)))
        | (apply AWP.rE; (focus (simp [go_sem]; exact ⟨rfl, rfl⟩)); try dsimp only [thn, inBlk])
        | fail)
      exact ⟨by simp [go_sem], rfl⟩
    · have h0' : ((j : Int) == 0) = false := by simp; omega
      have hu : up = p.take j := by rw [hup, show max j 1 = j by omega]
      rw [hu]
      (repeat' first
        | refine AWP.seq ?_
        | refine AWP.block ?_
        | (refine AWP.skip ?_; try dsimp only [thn, inBlk])
        | (refine AWP.exit ?_; try simp only [thn, inBlk, if_true, reduceIte, Nat.reduceEqDiff])
        | (refine AWP.ret ?_; try dsimp only [thn, inBlk])
        | (refine AWP.condT ?_ ?_; (focus (simp [go_sem, h0']; done)))
        | (refine AWP.condF ?_ ?_; (focus (simp [go_sem, h0']; done)))
        | (apply AWP.rE; (focus (simp [go_sem, h0']; exact ⟨rfl, rfl⟩)); try dsimp only [thn, inBlk])
        | fail)
      exact ⟨by simp [go_sem], rfl⟩
  rintro s hC ⟨rfl, rfl⟩
  (repeat' first
    | refine AWP.seq ?_
    | refine AWP.block ?_
    | (refine AWP.skip ?_; try dsimp only [thn, inBlk])
    | (refine AWP.exit ?_; try simp only [thn, inBlk, if_true, reduceIte, Nat.reduceEqDiff])
    | (refine AWP.ret ?_; try dsimp only [thn, inBlk])
    | (refine AWP.condT ?_ ?_; (focus (simp [go_sem]; done)))
    | (refine AWP.condF ?_ ?_; (focus (simp [go_sem]; done)))
    | (apply AWP.rE; (focus (simp [go_sem]; exact ⟨rfl, rfl⟩)); try dsimp only [thn, inBlk])
    | fail)
  refine AWP.callE (by simp [go_sem]; exact ⟨rfl, rfl, rfl, rfl, rfl⟩) (by kernel_rfl) ?_
  refine (rat2_calls (hz := hz) (p := up) kB (by omega)).mono ?_
  rintro r h5 ⟨rfl, rfl⟩
  have ci := kB.obj
  cases hi : idxE xs up with
  | none =>
    obtain ⟨g1, g2⟩ := idx_none hi
    rw [g1] at hF
    dsimp only at hF
    rw [g2, hF]
    refine awpL_restE (by simp [go_sem]; exact ⟨rfl, rfl⟩) ?_; try dsimp only [thn, inBlk]
    (repeat' first
      | refine AWP.seq ?_
      | refine AWP.block ?_
      | (refine AWP.skip ?_; try dsimp only [thn, inBlk])
      | (refine AWP.exit ?_; try simp only [thn, inBlk, if_true, reduceIte, Nat.reduceEqDiff])
      | (refine AWP.ret ?_; try dsimp only [thn, inBlk])
      | (refine AWP.condT ?_ ?_; (focus (simp [go_sem]; done)))
      | (refine AWP.condF ?_ ?_; (focus (simp [go_sem]; done)))
      | (apply AWP.rE; (focus (simp [go_sem]; exact ⟨rfl, rfl⟩)); try dsimp only [thn, inBlk])
      | fail)
    simp [bodyQ, thn, inBlk, resA, resV, go_sem]
    exact kB
  | some q =>
    obtain ⟨nd, g1, g2, g3⟩ := idx_some hi
    rw [g2] at hF
    dsimp only at hF
    rw [g3]
    have hq0 : ¬ (q : Int) < 0 := by omega
    obtain ⟨bi, bo, cc, e', sz, ti, ro, a, cap, q1, q2, q3, q4, q5⟩ := nzs_row hz kB.b1 g1 (kd := .i64)
    have q6 : cc[bo + 1]? = some (.bool nd.dir) := by
      have := congrArg (·[1]?) q4
      simp only [List.getElem?_take, List.getElem?_drop] at this
      simpa [agN] using this
    have hmd := hX.md _ (List.mem_of_getElem? g1)
    obtain ⟨va, vc, rfl⟩ := nzs_val hz kB.b1
    cases hdir : nd.dir
    · rw [if_pos hdir] at hF
      rw [hdir] at q6
      rw [hF]
      refine awpL_restE (by simp [go_sem]; exact ⟨rfl, rfl⟩) ?_; try dsimp only [thn, inBlk]
      (repeat' first
        | refine AWP.seq ?_
        | refine AWP.block ?_
        | (refine AWP.skip ?_; try dsimp only [thn, inBlk])
        | (refine AWP.exit ?_; try simp only [thn, inBlk, if_true, reduceIte, Nat.reduceEqDiff])
        | (refine AWP.ret ?_; try dsimp only [thn, inBlk])
        | (refine AWP.condT ?_ ?_; (focus (simp [go_sem, hq0, ci, q1, q2, q6]; done)))
        | (refine AWP.condF ?_ ?_; (focus (simp [go_sem, hq0, ci, q1, q2, q6]; done)))
        | (apply AWP.rE; (focus (simp [go_sem, hq0, ci, q1, q2, q6]; exact ⟨rfl, rfl⟩)); try dsimp only [thn, inBlk])
        | fail)
      simp [bodyQ, thn, inBlk, resA, resV, go_sem]
      exact kB
    rw [if_neg (by rw [hdir]; decide)] at hF
    rw [hdir] at q6
    refine awpL_restE (by simp [go_sem]; exact ⟨rfl, rfl⟩) ?_; try dsimp only [thn, inBlk]
    (repeat' first
      | refine AWP.seq ?_
      | refine AWP.block ?_
      | (refine AWP.skip ?_; try dsimp only [thn, inBlk])
      | (refine AWP.exit ?_; try simp only [thn, inBlk, if_true, reduceIte, Nat.reduceEqDiff])
      | (refine AWP.ret ?_; try dsimp only [thn, inBlk])
      | (refine AWP.condT ?_ ?_; (focus (simp [go_sem, hq0, ci, q1, q2, q6]; done)))
      | (refine AWP.condF ?_ ?_; (focus (simp [go_sem, hq0, ci, q1, q2, q6]; done)))
      | (apply AWP.rE; (focus (simp [go_sem, hq0, ci, q1, q2, q6]; exact ⟨rfl, rfl⟩)); try dsimp only [thn, inBlk])
      | fail)
    refine AWP.callE (by simp [go_sem, ci, q1, q2, q3, q4]; exact ⟨rfl, rfl, rfl, rfl, rfl⟩) (by kernel_rfl) ?_
    refine (rmay_calls (who := who) (x := (up, nd)) (a := a) (cap := cap) (bit := 1) kB hmd (by simp)).mono ?_
    rintro r h7 ⟨rfl, k7⟩
    dsimp only
    cases hmay : may who nd 1
    · rw [if_pos hmay] at hF
      rw [hF]
      refine awpL_restE (by simp [go_sem]; exact ⟨rfl, rfl⟩) ?_; try dsimp only [thn, inBlk]
      (repeat' first
        | refine AWP.seq ?_
        | refine AWP.block ?_
        | (refine AWP.skip ?_; try dsimp only [thn, inBlk])
        | (refine AWP.exit ?_; try simp only [thn, inBlk, if_true, reduceIte, Nat.reduceEqDiff])
        | (refine AWP.ret ?_; try dsimp only [thn, inBlk])
        | (refine AWP.condT ?_ ?_; (focus (simp [go_sem]; done)))
        | (refine AWP.condF ?_ ?_; (focus (simp [go_sem]; done)))
        | (apply AWP.rE; (focus (simp [go_sem]; exact ⟨rfl, rfl⟩)); try dsimp only [thn, inBlk])
        | fail)
      simp [bodyQ, thn, inBlk, resA, resV, go_sem]
      exact k7
    · rw [if_neg (by rw [hmay]; decide)] at hF
      refine awpL_restE (by simp [go_sem]; exact ⟨rfl, rfl⟩) ?_; try dsimp only [thn, inBlk]
      (repeat' first
        | refine AWP.seq ?_
        | refine AWP.block ?_
        | (refine AWP.skip ?_; try dsimp only [thn, inBlk])
        | (refine AWP.exit ?_; try simp only [thn, inBlk, if_true, reduceIte, Nat.reduceEqDiff])
        | (refine AWP.ret ?_; try dsimp only [thn, inBlk])
        | (refine AWP.condT ?_ ?_; (focus (simp [go_sem, w1]; done)))
        | (refine AWP.condF ?_ ?_; (focus (simp [go_sem, w1]; done)))
        | (apply AWP.rE; (focus (simp [go_sem, w1]; exact ⟨rfl, rfl⟩)); try dsimp only [thn, inBlk])
        | fail)
      exact ⟨p.length - (j + 1), by omega, j + 1, by omega, rfl, by simp [go_sem], by rw [hF, hn2], k7⟩
theorem rfind2_calls {who p : List UInt8} {v : Value} (hX : RX xs) (hz : zs.map (·.1) = xs) (k : Own O h (cell i (rrow v) :: nzs v zs :: R)) (hp : p.length ≤ 100000) :
    ACalls Tryz.prog 49 #[ptr i, tx who, tx p] h fun r h' => r = .tuple #[.int .i64 (if findE xs who p = 0 then idxV xs p else -1), .int .i64 (findE xs who p)] ∧ Own O h' (cell i (rrow v) :: nzs v zs :: R) := by
  refine ACalls.of_awp (args := [ptr i, tx who, tx p]) (n := 23) Tryz.func49 rfl rfl (by show 3 ≤ 23; omega) ?_
  have hln := hX.ln
  (repeat' first
    | refine AWP.seq ?_
    | refine AWP.block ?_
    | (refine AWP.skip ?_; try dsimp only [thn, inBlk])
    | (refine AWP.exit ?_; try simp only [thn, inBlk, if_true, reduceIte, Nat.reduceEqDiff])
    | (refine AWP.ret ?_; try dsimp only [thn, inBlk])
    | (refine AWP.condT ?_ ?_; (focus (simp [go_sem]; done)))
    | (refine AWP.condF ?_ ?_; (focus (simp [go_sem]; done)))
    | (apply AWP.rE; (focus (simp [go_sem]; exact ⟨rfl, rfl⟩)); try dsimp only [thn, inBlk])
    | fail)
  refine AWP.callE (by simp [go_sem]; exact ⟨rfl, rfl, rfl, rfl, rfl⟩) (by kernel_rfl) ?_
  refine (rcome2_calls (hz := hz) (who := who) (p := p) hX k hp).mono ?_
  rintro r h1 ⟨rfl, k1⟩
  unfold findE
  generalize comeE xs who p = z at *
  by_cases hz : z = 0
  rotate_left
  · have hz' : (z != 0) = true := by simpa using hz
    simp only [if_neg hz]
    refine awpL_restE (by simp [go_sem]; exact ⟨rfl, rfl⟩) ?_; try dsimp only [thn, inBlk]
    (repeat' first
      | refine AWP.seq ?_
      | refine AWP.block ?_
      | (refine AWP.skip ?_; try dsimp only [thn, inBlk])
      | (refine AWP.exit ?_; try simp only [thn, inBlk, if_true, reduceIte, Nat.reduceEqDiff])
      | (refine AWP.ret ?_; try dsimp only [thn, inBlk])
      | (refine AWP.condT ?_ ?_; (focus (simp [go_sem, hz']; done)))
      | (refine AWP.condF ?_ ?_; (focus (simp [go_sem, hz']; done)))
      | (apply AWP.rE; (focus (simp [go_sem, hz']; exact ⟨rfl, rfl⟩)); try dsimp only [thn, inBlk])
      | fail)
    simp [bodyQ, thn, inBlk, resA, resV, go_sem]
    exact k1
  subst hz
  refine awpL_restE (by simp [go_sem]; exact ⟨rfl, rfl⟩) ?_; try dsimp only [thn, inBlk]
  (repeat' first
    | refine AWP.seq ?_
    | refine AWP.block ?_
    | (refine AWP.skip ?_; try dsimp only [thn, inBlk])
    | (refine AWP.exit ?_; try simp only [thn, inBlk, if_true, reduceIte, Nat.reduceEqDiff])
    | (refine AWP.ret ?_; try dsimp only [thn, inBlk])
    | (refine AWP.condT ?_ ?_; (focus (simp [go_sem]; done)))
    | (refine AWP.condF ?_ ?_; (focus (simp [go_sem]; done)))
    | (apply AWP.rE; (focus (simp [go_sem]; exact ⟨rfl, rfl⟩)); try dsimp only [thn, inBlk])
    | fail)
  refine AWP.callE (by simp [go_sem]; exact ⟨rfl, rfl, rfl, rfl, rfl⟩) (by kernel_rfl) ?_
  refine (rat2_calls (hz := hz) (p := p) k1 (by omega)).mono ?_
  rintro r h5 ⟨rfl, rfl⟩
  cases hi : idxE xs p with
  | none =>
    obtain ⟨g1, g2⟩ := idx_none hi
    rw [g1, g2]
    refine awpL_restE (by simp [go_sem]; exact ⟨rfl, rfl⟩) ?_; try dsimp only [thn, inBlk]
    (repeat' first
      | refine AWP.seq ?_
      | refine AWP.block ?_
      | (refine AWP.skip ?_; try dsimp only [thn, inBlk])
      | (refine AWP.exit ?_; try simp only [thn, inBlk, if_true, reduceIte, Nat.reduceEqDiff])
      | (refine AWP.ret ?_; try dsimp only [thn, inBlk])
      | (refine AWP.condT ?_ ?_; (focus (simp [go_sem]; done)))
      | (refine AWP.condF ?_ ?_; (focus (simp [go_sem]; done)))
      | (apply AWP.rE; (focus (simp [go_sem]; exact ⟨rfl, rfl⟩)); try dsimp only [thn, inBlk])
      | fail)
    simp [bodyQ, thn, inBlk, resA, resV, go_sem]
    exact k1
  | some q =>
    obtain ⟨nd, g1, g2, g3⟩ := idx_some hi
    have hq0 : ¬ (q : Int) < 0 := by omega
    rw [g2, g3]
    refine awpL_restE (by simp [go_sem]; exact ⟨rfl, rfl⟩) ?_; try dsimp only [thn, inBlk]
    (repeat' first
      | refine AWP.seq ?_
      | refine AWP.block ?_
      | (refine AWP.skip ?_; try dsimp only [thn, inBlk])
      | (refine AWP.exit ?_; try simp only [thn, inBlk, if_true, reduceIte, Nat.reduceEqDiff])
      | (refine AWP.ret ?_; try dsimp only [thn, inBlk])
      | (refine AWP.condT ?_ ?_; (focus (simp [go_sem, hq0]; done)))
      | (refine AWP.condF ?_ ?_; (focus (simp [go_sem, hq0]; done)))
      | (apply AWP.rE; (focus (simp [go_sem, hq0]; exact ⟨rfl, rfl⟩)); try dsimp only [thn, inBlk])
      | fail)
    simp [bodyQ, thn, inBlk, resA, resV, go_sem]
    exact k1
set_option maxHeartbeats 32000000 in
theorem rnames2_calls {q : List UInt8} {v : Value} (hX : RX xs) (hP : ∀ x ∈ xs, pathB x.1 = true ∧ x.1.length ≤ 100000) (hz : zs.map (·.1) = xs) (k : Own O h (cell i (rrow v) :: nzs v zs :: R)) :
    ACalls Tryz.prog 70 #[ptr i, tx q] h fun r h' => ∃ a cap S, r = .slice a S.length cap ∧ S.Perm (kids xs q) ∧ Sd S ∧ Own O h' (txs (.slice a S.length cap) S :: cell i (rrow v) :: nzs v zs :: R) := by
  refine ACalls.of_awp (args := [ptr i, tx q]) (n := 86) Tryz.func70 rfl rfl (by show 2 ≤ 86; omega) ?_
  have hln := hX.ln
  obtain ⟨va, vc, rfl⟩ := nzs_val hz k.b1
  have k1 : Own O _ (txs (.slice (some ⟨h.next, 0, none⟩) 0 0) [] :: cell i (rrow (.slice va xs.length vc)) :: nzs (.slice va xs.length vc) zs :: R) := (k.push (.row [] 9 1 true false)).row_any (n := 0) rfl
  (repeat' first
    | refine AWP.seq ?_
    | refine AWP.block ?_
    | (refine AWP.skip ?_; try dsimp only [thn, inBlk])
    | (refine AWP.exit ?_; try simp only [thn, inBlk, if_true, reduceIte, Nat.reduceEqDiff])
    | (refine AWP.ret ?_; try dsimp only [thn, inBlk])
    | (refine AWP.condT ?_ ?_; (focus (simp [go_sem]; done)))
    | (refine AWP.condF ?_ ?_; (focus (simp [go_sem]; done)))
    | (apply AWP.rE; (focus (simp [go_sem]; exact ⟨rfl, rfl⟩)); try dsimp only [thn, inBlk])
    | (apply AWP.dE hmix [.n 0 [9], .n 1 [52], .n 2 [53], .n 3 [5, 54], .n 4 [9, 54], .n 5 [55, 56, 54], .n 6 [57, 54], .n 7 [5, 54], .n 8 [9, 54], .n 9 [60, 54], .n 10 [59, 61, 54], .n 11 [62, 54], .n 12 [58, 63, 54], .n 13 [54, 64]]; (focus kernel_rfl); (focus (simp [go_sem]; exact ⟨rfl, rfl⟩)); try dsimp only [thn, inBlk])
    | fail)
  refine AWP.loopR [0, 1, 5, 6] (fun m s h' => ∃ (j : Nat) (a : Option Addr) (cap : Nat) (S : List (List UInt8)), j ≤ xs.length ∧ m = xs.length - j ∧ s = ⟨86, [(0, ptr i), (1, tx q), (5, .slice a S.length cap), (6, .int .i64 j)]⟩ ∧ S.Perm (kids (xs.take j) q) ∧ Sd S ∧
      Own O h' (txs (.slice a S.length cap) S :: cell i (rrow (.slice va xs.length vc)) :: nzs (.slice va xs.length vc) zs :: R)) ?_ ?_
  · exact ⟨_, 0, some ⟨h.next, 0, none⟩, 0, [], by omega, rfl, by simp [go_sem], by simp [kids], List.Pairwise.nil, k1⟩
  rintro m s hB ⟨j, a, cap, S, hj, rfl, rfl, hS, hSd, kB⟩
  have ciB := kB.b1.obj
  have hSl : S.length ≤ j := by
    rw [hS.length_eq]
    simp only [kids, List.length_map]
    exact Nat.le_trans (List.length_filter_le _ _) (by rw [List.length_map, List.length_take]; omega)
  by_cases hjm : j < xs.length
  rotate_left
  · have hjm' : ¬ (j : Int) < xs.length := by omega
    obtain rfl : j = xs.length := by omega
    rw [List.take_length] at hS
    (repeat' first
      | refine AWP.seq ?_
      | refine AWP.block ?_
      | (refine AWP.skip ?_; try dsimp only [thn, inBlk])
      | (refine AWP.exit ?_; try simp only [thn, inBlk, if_true, reduceIte, Nat.reduceEqDiff])
      | (refine AWP.ret ?_; try dsimp only [thn, inBlk])
      | (refine AWP.condT ?_ ?_; (focus (simp [go_sem, hjm', ciB]; done)))
      | (refine AWP.condF ?_ ?_; (focus (simp [go_sem, hjm', ciB]; done)))
      | (apply AWP.rE; (focus (simp [go_sem, hjm', ciB]; exact ⟨rfl, rfl⟩)); try dsimp only [thn, inBlk])
      | (apply AWP.dE hmix [.n 0 [9], .n 1 [52], .n 2 [53], .n 3 [5, 54], .n 4 [9, 54], .n 5 [55, 56, 54], .n 6 [57, 54], .n 7 [5, 54], .n 8 [9, 54], .n 9 [60, 54], .n 10 [59, 61, 54], .n 11 [62, 54], .n 12 [58, 63, 54], .n 13 [54, 64]]; (focus kernel_rfl); (focus (simp [go_sem, hjm', ciB]; exact ⟨rfl, rfl⟩)); try dsimp only [thn, inBlk])
      | fail)
    simp [bodyQ, thn, inBlk, resA, resV, go_sem]
    exact ⟨a, cap, S, ⟨rfl, rfl, rfl⟩, hS, hSd, kB⟩
  have hjm' : (j : Int) < xs.length := by omega
  have hj' : xs[j]? = some xs[j] := List.getElem?_eq_getElem hjm
  obtain ⟨hpb, hpl⟩ := hP _ (List.getElem_mem hjm)
  have hkt := kids_take (q := q) hj'
  obtain ⟨bi, bo, cc, e', sz, ti, ro, aa, acap, q1, q2, q3, q4, q5⟩ := nzs_row hz kB.b2 hj' (kd := .i64)
  generalize xs[j] = x at *
  obtain ⟨p, nd⟩ := x
  dsimp only at hpb hpl hkt q5
  have w1 : IntKind.i64.wrap ((j : Int) + 1) = ((j + 1 : Nat) : Int) := by rw [wI64 (by omega) (by omega)]; omega
  by_cases ht : p = [47]
  · have ht' : (p == [47]) = true := by simpa using ht
    have hk : kidP q p = false := by simp [kidP, ht]
    rw [hk] at hkt
    simp only [Bool.false_eq_true, if_false, List.append_nil] at hkt
    (repeat' first
      | refine AWP.seq ?_
      | refine AWP.block ?_
      | (refine AWP.skip ?_; try dsimp only [thn, inBlk])
      | (refine AWP.exit ?_; try simp only [thn, inBlk, if_true, reduceIte, Nat.reduceEqDiff])
      | (refine AWP.ret ?_; try dsimp only [thn, inBlk])
      | (refine AWP.condT ?_ ?_; (focus (simp [go_sem, hjm', ciB, q1, q2, q5, ht', w1]; done)))
      | (refine AWP.condF ?_ ?_; (focus (simp [go_sem, hjm', ciB, q1, q2, q5, ht', w1]; done)))
      | (apply AWP.rE; (focus (simp [go_sem, hjm', ciB, q1, q2, q5, ht', w1]; exact ⟨rfl, rfl⟩)); try dsimp only [thn, inBlk])
      | (apply AWP.dE hmix [.n 0 [9], .n 1 [52], .n 2 [53], .n 3 [5, 54], .n 4 [9, 54], .n 5 [55, 56, 54], .n 6 [57, 54], .n 7 [5, 54], .n 8 [9, 54], .n 9 [60, 54], .n 10 [59, 61, 54], .n 11 [62, 54], .n 12 [58, 63, 54], .n 13 [54, 64]]; (focus kernel_rfl); (focus (simp [go_sem, hjm', ciB, q1, q2, q5, ht', w1]; exact ⟨rfl, rfl⟩)); try dsimp only [thn, inBlk])
      | fail)
    exact ⟨xs.length - (j + 1), by omega, j + 1, a, cap, S, by omega, rfl, by simp [go_sem], by rw [hkt]; exact hS, hSd, kB⟩
  have ht' : (p == [47]) = false := by simpa using ht
  (repeat' first
    | refine AWP.seq ?_
    | refine AWP.block ?_
    | (refine AWP.skip ?_; try dsimp only [thn, inBlk])
    | (refine AWP.exit ?_; try simp only [thn, inBlk, if_true, reduceIte, Nat.reduceEqDiff])
    | (refine AWP.ret ?_; try dsimp only [thn, inBlk])
    | (refine AWP.condT ?_ ?_; (focus (simp [go_sem, hjm', ciB, q1, q2, q5]; done)))
    | (refine AWP.condF ?_ ?_; (focus (simp [go_sem, hjm', ciB, q1, q2, q5]; done)))
    | (apply AWP.rE; (focus (simp [go_sem, hjm', ciB, q1, q2, q5]; exact ⟨rfl, rfl⟩)); try dsimp only [thn, inBlk])
    | (apply AWP.dE hmix [.n 0 [9], .n 1 [52], .n 2 [53], .n 3 [5, 54], .n 4 [9, 54], .n 5 [55, 56, 54], .n 6 [57, 54], .n 7 [5, 54], .n 8 [9, 54], .n 9 [60, 54], .n 10 [59, 61, 54], .n 11 [62, 54], .n 12 [58, 63, 54], .n 13 [54, 64]]; (focus kernel_rfl); (focus (simp [go_sem, hjm', ciB, q1, q2, q5]; exact ⟨rfl, rfl⟩)); try dsimp only [thn, inBlk])
    | fail)
  refine AWP.callE (by simp [go_sem, ht']; exact ⟨rfl, rfl, rfl, rfl, rfl⟩) (by kernel_rfl) ?_
  refine (rpar_calls (l := p) (by omega)).mono ?_
  rintro r h2 ⟨rfl, rfl⟩
  by_cases hpq : par p = q
  rotate_left
  · have hpq' : (par p == q) = false := by simpa using hpq
    have hpqn : (par p != q) = true := by simpa using hpq
    have hk : kidP q p = false := by simp [kidP, hpq]
    rw [hk] at hkt
    simp only [Bool.false_eq_true, if_false, List.append_nil] at hkt
    refine awpL_restE (by simp [go_sem, hpq', hpqn]; exact ⟨rfl, rfl⟩) ?_; try dsimp only [thn, inBlk]
    (repeat' first
      | refine AWP.seq ?_
      | refine AWP.block ?_
      | (refine AWP.skip ?_; try dsimp only [thn, inBlk])
      | (refine AWP.exit ?_; try simp only [thn, inBlk, if_true, reduceIte, Nat.reduceEqDiff])
      | (refine AWP.ret ?_; try dsimp only [thn, inBlk])
      | (refine AWP.condT ?_ ?_; (focus (simp [go_sem, w1]; done)))
      | (refine AWP.condF ?_ ?_; (focus (simp [go_sem, w1]; done)))
      | (apply AWP.rE; (focus (simp [go_sem, w1]; exact ⟨rfl, rfl⟩)); try dsimp only [thn, inBlk])
      | (apply AWP.dE hmix [.n 0 [9], .n 1 [52], .n 2 [53], .n 3 [5, 54], .n 4 [9, 54], .n 5 [55, 56, 54], .n 6 [57, 54], .n 7 [5, 54], .n 8 [9, 54], .n 9 [60, 54], .n 10 [59, 61, 54], .n 11 [62, 54], .n 12 [58, 63, 54], .n 13 [54, 64]]; (focus kernel_rfl); (focus (simp [go_sem, w1]; exact ⟨rfl, rfl⟩)); try dsimp only [thn, inBlk])
      | fail)
    exact ⟨xs.length - (j + 1), by omega, j + 1, a, cap, S, by omega, rfl, by simp [go_sem], by rw [hkt]; exact hS, hSd, kB⟩
  have hpq' : (par p == q) = true := by simpa using hpq
  have hpqn : (par p != q) = false := by simpa using hpq
  have hk : kidP q p = true := by simp [kidP, hpq, ht]
  rw [hk, if_pos rfl] at hkt
  have h0 := pathB_head hpb
  have hp0 : 0 < p.length := by rcases p with _ | ⟨c, p⟩; simp at h0; simp
  have hqp : q.length ≤ p.length := by
    by_cases hq : q = [47]
    · rw [hq]; exact hp0
    · have := (base_sub h0 (by rw [hpq]; exact hq)).1
      rw [hpq] at this; omega
  have s1 : ∀ hh, sliceR Tryz.prog hh 9 (tx p) (some (.int .i64 (q.length : Int))) none none = some (tx (p.drop q.length)) := fun hh => by
    have := str_slice (P := Tryz.prog) (h := hh) Tryz.underlying9 (l := p) (lo := q.length) (hi := p.length) (a := some (.int .i64 (q.length : Int))) (u := none) hqp (by omega) (.inr ⟨.i64, rfl⟩) (.inl ⟨rfl, rfl⟩)
    rw [List.take_length] at this; exact this
  refine awpL_restE (by simp [go_sem, hpq', hpqn]; exact ⟨rfl, rfl⟩) ?_; try dsimp only [thn, inBlk]
  (repeat' first
    | refine AWP.seq ?_
    | refine AWP.block ?_
    | (refine AWP.skip ?_; try dsimp only [thn, inBlk])
    | (refine AWP.exit ?_; try simp only [thn, inBlk, if_true, reduceIte, Nat.reduceEqDiff])
    | (refine AWP.ret ?_; try dsimp only [thn, inBlk])
    | (refine AWP.condT ?_ ?_; (focus (simp [go_sem, s1]; done)))
    | (refine AWP.condF ?_ ?_; (focus (simp [go_sem, s1]; done)))
    | (apply AWP.rE; (focus (simp [go_sem, s1]; exact ⟨rfl, rfl⟩)); try dsimp only [thn, inBlk])
    | (apply AWP.dE hmix [.n 0 [9], .n 1 [52], .n 2 [53], .n 3 [5, 54], .n 4 [9, 54], .n 5 [55, 56, 54], .n 6 [57, 54], .n 7 [5, 54], .n 8 [9, 54], .n 9 [60, 54], .n 10 [59, 61, 54], .n 11 [62, 54], .n 12 [58, 63, 54], .n 13 [54, 64]]; (focus kernel_rfl); (focus (simp [go_sem, s1]; exact ⟨rfl, rfl⟩)); try dsimp only [thn, inBlk])
    | fail)
  refine AWP.cutT [0, 1, 5, 6, 8] (fun s h' => s = ⟨86, [(0, ptr i), (1, tx q), (5, .slice a S.length cap), (6, .int .i64 j), (8, tx (base p))]⟩ ∧ h' = h2) ?_ ?_
  · by_cases hq : q = [47]
    · have hq' : (q == [47]) = true := by simpa using hq
      have hqn : (q != [47]) = false := by simpa using hq
      have hb : base p = p.drop q.length := by rw [base_top hpb (by rw [hpq, hq]) ht, hq]; rfl
      rw [hb]
      (repeat' first
        | refine AWP.seq ?_
        | refine AWP.block ?_
        | (refine AWP.skip ?_; try dsimp only [thn, inBlk])
        | (refine AWP.exit ?_; try simp only [thn, inBlk, if_true, reduceIte, Nat.reduceEqDiff])
        | (refine AWP.ret ?_; try dsimp only [thn, inBlk])
        | (refine AWP.condT ?_ ?_; (focus (simp [go_sem, hq', hqn]; done)))
        | (refine AWP.condF ?_ ?_; (focus (simp [go_sem, hq', hqn]; done)))
        | (apply AWP.rE; (focus (simp [go_sem, hq', hqn]; exact ⟨rfl, rfl⟩)); try dsimp only [thn, inBlk])
        | (apply AWP.dE hmix [.n 0 [9], .n 1 [52], .n 2 [53], .n 3 [5, 54], .n 4 [9, 54], .n 5 [55, 56, 54], .n 6 [57, 54], .n 7 [5, 54], .n 8 [9, 54], .n 9 [60, 54], .n 10 [59, 61, 54], .n 11 [62, 54], .n 12 [58, 63, 54], .n 13 [54, 64]]; (focus kernel_rfl); (focus (simp [go_sem, hq', hqn]; exact ⟨rfl, rfl⟩)); try dsimp only [thn, inBlk])
        | fail)
      exact ⟨by simp [go_sem], rfl⟩
    · have hq' : (q == [47]) = false := by simpa using hq
      have hqn : (q != [47]) = true := by simpa using hq
      obtain ⟨b1, b2⟩ := base_sub h0 (by rw [hpq]; exact hq)
      rw [hpq] at b1 b2
      have s2 : ∀ hh, sliceR Tryz.prog hh 9 (tx (p.drop q.length)) (some (.int .i64 1)) none none = some (tx (base p)) := fun hh => by
        have := str_slice (P := Tryz.prog) (h := hh) Tryz.underlying9 (l := p.drop q.length) (lo := 1) (hi := (p.drop q.length).length) (a := some (.int .i64 1)) (u := none) (by simp; omega) (by omega) (.inr ⟨.i64, rfl⟩) (.inl ⟨rfl, rfl⟩)
        rw [List.take_length, List.drop_drop] at this
        rw [this, b2]
      (repeat' first
        | refine AWP.seq ?_
        | refine AWP.block ?_
        | (refine AWP.skip ?_; try dsimp only [thn, inBlk])
        | (refine AWP.exit ?_; try simp only [thn, inBlk, if_true, reduceIte, Nat.reduceEqDiff])
        | (refine AWP.ret ?_; try dsimp only [thn, inBlk])
        | (refine AWP.condT ?_ ?_; (focus (simp [go_sem, hq', hqn, s2]; done)))
        | (refine AWP.condF ?_ ?_; (focus (simp [go_sem, hq', hqn, s2]; done)))
        | (apply AWP.rE; (focus (simp [go_sem, hq', hqn, s2]; exact ⟨rfl, rfl⟩)); try dsimp only [thn, inBlk])
        | (apply AWP.dE hmix [.n 0 [9], .n 1 [52], .n 2 [53], .n 3 [5, 54], .n 4 [9, 54], .n 5 [55, 56, 54], .n 6 [57, 54], .n 7 [5, 54], .n 8 [9, 54], .n 9 [60, 54], .n 10 [59, 61, 54], .n 11 [62, 54], .n 12 [58, 63, 54], .n 13 [54, 64]]; (focus kernel_rfl); (focus (simp [go_sem, hq', hqn, s2]; exact ⟨rfl, rfl⟩)); try dsimp only [thn, inBlk])
        | fail)
      exact ⟨by simp [go_sem], rfl⟩
  rintro s h3 ⟨rfl, rfl⟩
  generalize base p = x at *
  obtain ⟨na, nc, h7, e7, k7⟩ := Own.appN (P := Tryz.prog) (t := 71) (xt := 71) (m := 1) (xs := [tx x]) (i := h3.next) Tryz.underlying71 tsz9 tby9 tz9 nI71 (by omega) (by omega) (by rfl) kB rfl rfl rfl (by omega)
  have k8 : Own O h7 (os 9 1 (.slice na (S.length + 1) nc) (S.length + 1) ((S ++ [x]).map Ab.T) :: cell i (rrow (.slice va xs.length vc)) :: nzs (.slice va xs.length vc) zs :: R) := by
    have e2 : (S ++ [x]).map T = S.map T ++ [tx x] := by simp [T]
    rw [e2]; exact k7
  have wK : IntKind.i64.wrap (S.length : Int) = (S.length : Int) := wI64 (by omega) (by omega)
  (repeat' first
    | refine AWP.seq ?_
    | refine AWP.block ?_
    | (refine AWP.skip ?_; try dsimp only [thn, inBlk])
    | (refine AWP.exit ?_; try simp only [thn, inBlk, if_true, reduceIte, Nat.reduceEqDiff])
    | (refine AWP.ret ?_; try dsimp only [thn, inBlk])
    | (refine AWP.condT ?_ ?_; (focus (simp [go_sem, e7, wK]; done)))
    | (refine AWP.condF ?_ ?_; (focus (simp [go_sem, e7, wK]; done)))
    | (apply AWP.rE; (focus (simp [go_sem, e7, wK]; exact ⟨rfl, rfl⟩)); try dsimp only [thn, inBlk])
    | (apply AWP.dE hmix [.n 0 [9], .n 1 [52], .n 2 [53], .n 3 [5, 54], .n 4 [9, 54], .n 5 [55, 56, 54], .n 6 [57, 54], .n 7 [5, 54], .n 8 [9, 54], .n 9 [60, 54], .n 10 [59, 61, 54], .n 11 [62, 54], .n 12 [58, 63, 54], .n 13 [54, 64]]; (focus kernel_rfl); (focus (simp [go_sem, e7, wK]; exact ⟨rfl, rfl⟩)); try dsimp only [thn, inBlk])
    | fail)
  generalize hV : Value.slice na (S.length + 1) nc = V at *
  refine AWP.loopR [0, 1, 6, 5, 9] (fun m s h' => ∃ (A B : List (List UInt8)), m = A.length ∧ S = A ++ B ∧ (∀ b ∈ B, x < b) ∧ s = ⟨86, [(0, ptr i), (1, tx q), (6, .int .i64 j), (5, V), (9, .int .i64 A.length)]⟩ ∧ Own O h' (os 9 1 V (S.length + 1) ((A ++ x :: B).map Ab.T) :: cell i (rrow (.slice va xs.length vc)) :: nzs (.slice va xs.length vc) zs :: R)) ?_ ?_
  · exact ⟨_, S, [], rfl, by simp, by simp, by simp [go_sem], k8⟩
  rintro m s hE ⟨A, B, rfl, hAB, hB2, rfl, kE⟩
  have fin : (∀ y, A.getLast? = some y → ¬ x < y) → ∃ (S2 : List (List UInt8)), S2.length = S.length + 1 ∧ S2.Perm (kids (xs.take (j + 1)) q) ∧ Sd S2 ∧ Own O hE (txs (.slice na S2.length nc) S2 :: cell i (rrow (.slice va xs.length vc)) :: nzs (.slice va xs.length vc) zs :: R) := fun hy => by
    have hl : (A ++ x :: B).length = S.length + 1 := by rw [hAB]; simp; omega
    refine ⟨A ++ x :: B, hl, ?_, ?_, ?_⟩
    · rw [hkt]
      refine List.perm_middle.trans ?_
      rw [← hAB]
      exact ((List.Perm.cons x hS).trans (List.perm_append_comm (l₁ := [x])))
    · rw [hAB] at hSd; exact hSd.ins hB2 hy
    · show Own O hE (os 9 1 (.slice na (A ++ x :: B).length nc) (A ++ x :: B).length ((A ++ x :: B).map Ab.T) :: _)
      rw [hl, hV]; exact kE
  rcases List.eq_nil_or_concat A with rfl | ⟨A', y, rfl⟩
  · obtain ⟨S2, hl, f1, f2, f3⟩ := fin (by simp)
    (repeat' first
      | refine AWP.seq ?_
      | refine AWP.block ?_
      | (refine AWP.skip ?_; try dsimp only [thn, inBlk])
      | (refine AWP.exit ?_; try simp only [thn, inBlk, if_true, reduceIte, Nat.reduceEqDiff])
      | (refine AWP.ret ?_; try dsimp only [thn, inBlk])
      | (refine AWP.condT ?_ ?_; (focus (simp [go_sem, w1]; done)))
      | (refine AWP.condF ?_ ?_; (focus (simp [go_sem, w1]; done)))
      | (apply AWP.rE; (focus (simp [go_sem, w1]; exact ⟨rfl, rfl⟩)); try dsimp only [thn, inBlk])
      | (apply AWP.dE hmix [.n 0 [9], .n 1 [52], .n 2 [53], .n 3 [5, 54], .n 4 [9, 54], .n 5 [55, 56, 54], .n 6 [57, 54], .n 7 [5, 54], .n 8 [9, 54], .n 9 [60, 54], .n 10 [59, 61, 54], .n 11 [62, 54], .n 12 [58, 63, 54], .n 13 [54, 64]]; (focus kernel_rfl); (focus (simp [go_sem, w1]; exact ⟨rfl, rfl⟩)); try dsimp only [thn, inBlk])
      | fail)
    exact ⟨xs.length - (j + 1), by omega, j + 1, na, nc, S2, by omega, rfl, by rw [hl, hV]; simp [go_sem], f1, f2, f3⟩
  rw [List.concat_eq_append] at *
  obtain ⟨p1, hp1⟩ : ∃ p, p = A'.length := ⟨_, rfl⟩
  obtain ⟨q9, hq9⟩ : ∃ q, q = p1 + 1 := ⟨_, rfl⟩
  have hlA : (A' ++ [y]).length = q9 := by simp; omega
  have hKl : q9 ≤ S.length := by rw [hAB, List.length_append, hlA]; omega
  rw [hlA]
  have hq0 : (0 : Int) < q9 := by omega
  have hq0' : 0 < q9 := by omega
  have wq : IntKind.i64.wrap ((q9 : Int) - 1) = (p1 : Int) := by rw [wI64 (by omega) (by omega)]; omega
  have hL : A' ++ [y] ++ x :: B = A' ++ y :: x :: B := by simp
  rw [hL] at kE
  have hnl : (A' ++ y :: x :: B).length = S.length + 1 := by rw [hAB]; simp; omega
  have hx1 : ((A' ++ y :: x :: B).map Ab.T)[q9]? = some (tx x) := by
    rw [List.getElem?_map, List.getElem?_append_right (by omega), show q9 - A'.length = 1 by omega]; rfl
  have hx0 : ((A' ++ y :: x :: B).map Ab.T)[p1]? = some (tx y) := by
    rw [List.getElem?_map, List.getElem?_append_right (by omega), show p1 - A'.length = 0 by omega]; rfl
  have hnq : q9 < S.length + 1 := by omega
  have hnp : p1 < S.length + 1 := by omega
  obtain ⟨b1, o1, c1, _, _, _, _, a1, r1, u1⟩ := kE.os_sl.at1 (P := Tryz.prog) (t := 71) Tryz.underlying71 tsz9 hnq hx1 (kd := .i64)
  obtain ⟨b2, o2, c2, _, _, _, _, a2, r2, u2⟩ := kE.os_sl.at1 (P := Tryz.prog) (t := 71) Tryz.underlying71 tsz9 hnp hx0 (kd := .i64)
  by_cases hlt : x < y
  rotate_left
  · obtain ⟨S2, hl, f1, f2, f3⟩ := fin (fun z hz => by simp at hz; rw [← hz]; exact hlt)
    (repeat' first
      | refine AWP.seq ?_
      | refine AWP.block ?_
      | (refine AWP.skip ?_; try dsimp only [thn, inBlk])
      | (refine AWP.exit ?_; try simp only [thn, inBlk, if_true, reduceIte, Nat.reduceEqDiff])
      | (refine AWP.ret ?_; try dsimp only [thn, inBlk])
      | (refine AWP.condT ?_ ?_; (focus (simp [go_sem, hq0, hq0', wq, a1, r1, u1, a2, r2, u2, strA_lss, hlt, w1]; done)))
      | (refine AWP.condF ?_ ?_; (focus (simp [go_sem, hq0, hq0', wq, a1, r1, u1, a2, r2, u2, strA_lss, hlt, w1]; done)))
      | (apply AWP.rE; (focus (simp [go_sem, hq0, hq0', wq, a1, r1, u1, a2, r2, u2, strA_lss, hlt, w1]; exact ⟨rfl, rfl⟩)); try dsimp only [thn, inBlk])
      | (apply AWP.dE hmix [.n 0 [9], .n 1 [52], .n 2 [53], .n 3 [5, 54], .n 4 [9, 54], .n 5 [55, 56, 54], .n 6 [57, 54], .n 7 [5, 54], .n 8 [9, 54], .n 9 [60, 54], .n 10 [59, 61, 54], .n 11 [62, 54], .n 12 [58, 63, 54], .n 13 [54, 64]]; (focus kernel_rfl); (focus (simp [go_sem, hq0, hq0', wq, a1, r1, u1, a2, r2, u2, strA_lss, hlt, w1]; exact ⟨rfl, rfl⟩)); try dsimp only [thn, inBlk])
      | fail)
    exact ⟨xs.length - (j + 1), by omega, j + 1, na, nc, S2, by omega, rfl, by rw [hl, hV]; simp [go_sem], f1, f2, f3⟩
  have hs1 : (A' ++ y :: x :: B).set q9 y = A' ++ y :: y :: B := by
    rw [List.set_append_right _ _ (by omega), show q9 - A'.length = 1 by omega]; rfl
  have hs2 : (A' ++ y :: y :: B).set p1 x = A' ++ x :: y :: B := by
    rw [List.set_append_right _ _ (by omega), show p1 - A'.length = 0 by omega]; rfl
  obtain ⟨b3, o3, c3, ti3, a3, r3, m3, k12⟩ := Own.ts_write (P := Tryz.prog) (t := 71) hnl.symm kE Tryz.underlying71 tsz9 hnq y (kd := .i64)
  cases a1.symm.trans a3
  rw [hs1] at k12
  obtain ⟨b4, o4, c4, ti4, a4, r4, m4, k13⟩ := Own.ts_write (P := Tryz.prog) (t := 71) (by simp at hnl ⊢; omega) k12 Tryz.underlying71 tsz9 hnp x (kd := .i64)
  cases a2.symm.trans a4
  rw [hs2] at k13
  have m3' : o1 + 1 ≤ c3.length := m3
  have m4' : o2 + 1 ≤ c4.length := m4
  cases r1.symm.trans r3
  generalize hG : hE.set b1 (.row (c1.set o1 (.string ⟨y.toArray⟩)) 9 1 _ false) = hF at *
  (repeat' first
    | refine AWP.seq ?_
    | refine AWP.block ?_
    | (refine AWP.skip ?_; try dsimp only [thn, inBlk])
    | (refine AWP.exit ?_; try simp only [thn, inBlk, if_true, reduceIte, Nat.reduceEqDiff])
    | (refine AWP.ret ?_; try dsimp only [thn, inBlk])
    | (refine AWP.condT ?_ ?_; (focus (simp [go_sem, hq0, hq0', wq, a1, r1, u1, a2, r2, u2, strA_lss, hlt, m3', hG, r4, m4']; done)))
    | (refine AWP.condF ?_ ?_; (focus (simp [go_sem, hq0, hq0', wq, a1, r1, u1, a2, r2, u2, strA_lss, hlt, m3', hG, r4, m4']; done)))
    | (apply AWP.rE; (focus (simp [go_sem, hq0, hq0', wq, a1, r1, u1, a2, r2, u2, strA_lss, hlt, m3', hG, r4, m4']; exact ⟨rfl, rfl⟩)); try dsimp only [thn, inBlk])
    | (apply AWP.dE hmix [.n 0 [9], .n 1 [52], .n 2 [53], .n 3 [5, 54], .n 4 [9, 54], .n 5 [55, 56, 54], .n 6 [57, 54], .n 7 [5, 54], .n 8 [9, 54], .n 9 [60, 54], .n 10 [59, 61, 54], .n 11 [62, 54], .n 12 [58, 63, 54], .n 13 [54, 64]]; (focus kernel_rfl); (focus (simp [go_sem, hq0, hq0', wq, a1, r1, u1, a2, r2, u2, strA_lss, hlt, m3', hG, r4, m4']; exact ⟨rfl, rfl⟩)); try dsimp only [thn, inBlk])
    | fail)
  refine ⟨A'.length, by omega, A', y :: B, rfl, by rw [hAB, List.append_assoc]; rfl, fun b hb => ?_, by rw [← hp1]; simp [go_sem], k13⟩
  rcases List.mem_cons.1 hb with rfl | hb
  · exact hlt
  · exact hB2 b hb
end
end L23
end

section
open Go Ab Go.Proofs
namespace L23
set_option autoImplicit false
set_option linter.unusedSimpArgs false
set_option linter.unusedVariables false
section
variable {O : Old} {h : AHeap} {R : List Chunk} {i : Nat} {xs : TL} {zs : List NZ}
abbrev zN : NZ := (([], ⟨false, [], 0, []⟩), (none, 0))
theorem find_get {who p : List UInt8} (hc : findE xs who p = 0) : ∃ nd, get xs p = some nd := by
  unfold findE at hc
  split at hc
  · cases hq : get xs p with
    | none => rw [hq] at hc; cases hc
    | some nd => exact ⟨nd, rfl⟩
  · contradiction
theorem node_z {p : List UInt8} {nd : Nd} {q : Nat} (hz : zs.map (·.1) = xs) (hq : xs[q]? = some (p, nd)) : ∃ z : NZ, zs[q]? = some z ∧ z.1 = (p, nd) := by
  rw [← hz, List.getElem?_map, Option.map_eq_some_iff] at hq; exact hq
def StatP (O : Old) (R : List Chunk) (i : Nat) (v : Value) (zs : List NZ) (xs : TL) (who p : List UInt8) (r : Value) (h' : AHeap) : Prop :=
  ∃ z : NZ, r = .tuple #[.agg (nz z).toArray, .int .i64 (findE xs who p)] ∧ ((findE xs who p = 0 ∧ z ∈ zs ∧ z.1.1 = p ∧ get xs p = some z.1.2) ∨ (findE xs who p ≠ 0 ∧ z = zN)) ∧ Own O h' (cell i (rrow v) :: nzs v zs :: R)
set_option maxHeartbeats 8000000 in
theorem rstat_calls {who p : List UInt8} {v : Value} (hX : RX xs) (hz : zs.map (·.1) = xs) (k : Own O h (cell i (rrow v) :: nzs v zs :: R)) (hp : p.length ≤ 100000) :
    ACalls Tryz.prog 29 #[ptr i, tx who, tx p] h (StatP O R i v zs xs who p) := by
  refine ACalls.of_awp (args := [ptr i, tx who, tx p]) (n := 28) Tryz.func29 rfl rfl (by show 3 ≤ 28; omega) ?_
  have k1 := k.push (.row (nz zN) 47 5 true false)
  have c1 := k1.obj
  (repeat' first
    | refine AWP.seq ?_
    | refine AWP.block ?_
    | (refine AWP.skip ?_; try dsimp only [thn, inBlk])
    | (refine AWP.exit ?_; try simp only [thn, inBlk, if_true, reduceIte, Nat.reduceEqDiff])
    | (refine AWP.ret ?_; try dsimp only [thn, inBlk])
    | (refine AWP.condT ?_ ?_; (focus (simp [go_sem]; done)))
    | (refine AWP.condF ?_ ?_; (focus (simp [go_sem]; done)))
    | (apply AWP.rE; (focus (simp [go_sem]; exact ⟨rfl, rfl⟩)); try dsimp only [thn, inBlk])
    | fail)
  refine AWP.callE (by simp [go_sem]; exact ⟨rfl, rfl, rfl, rfl, rfl⟩) (by kernel_rfl) ?_
  refine (rfind2_calls (who := who) (p := p) hX (hz := hz) k1.b2.b2 hp).mono ?_
  rintro r h2 ⟨rfl, k2⟩
  have c2 := k2.b2.obj
  by_cases hc : findE xs who p = 0
  rotate_left
  · have hc' : (findE xs who p != 0) = true := by simpa using hc
    rw [if_neg hc]
    have k3 := k2.b2.set (.row (nz zN) 47 5 true false)
    have c3 := k3.obj
    have hf : ∀ hh : AHeap, Own O hh (cell i (rrow v) :: nzs v zs :: R) → StatP O R i v zs xs who p (.tuple #[.agg (nz zN).toArray, .int .i64 (findE xs who p)]) hh := fun hh kk => ⟨zN, rfl, .inr ⟨hc, rfl⟩, kk⟩
    generalize findE xs who p = y at *
    refine awpL_restE (by simp [go_sem]; exact ⟨rfl, rfl⟩) ?_; try dsimp only [thn, inBlk]
    (repeat' first
      | refine AWP.seq ?_
      | refine AWP.block ?_
      | (refine AWP.skip ?_; try dsimp only [thn, inBlk])
      | (refine AWP.exit ?_; try simp only [thn, inBlk, if_true, reduceIte, Nat.reduceEqDiff])
      | (refine AWP.ret ?_; try dsimp only [thn, inBlk])
      | (refine AWP.condT ?_ ?_; (focus (simp [go_sem, hc', c2]; done)))
      | (refine AWP.condF ?_ ?_; (focus (simp [go_sem, hc', c2]; done)))
      | (apply AWP.rE; (focus (simp [go_sem, hc', c2]; exact ⟨rfl, rfl⟩)); try dsimp only [thn, inBlk])
      | fail)
    simp [bodyQ, thn, inBlk, resA, resV, go_sem, c3]
    exact hf _ k3.tail
  rw [if_pos hc, hc]
  obtain ⟨nd, hg⟩ := find_get hc
  obtain ⟨q, hq, hqf, hqv⟩ := node_ix hg
  obtain ⟨z, hzq, hz1⟩ := node_z hz hq
  obtain ⟨bi, bo, cc, e', sz, ti, ro, q1, q2, q3, q4, q5⟩ := nz_at k2.b1 hzq (kd := .i64)
  have ci := k2.obj
  rw [hqv]
  have k3 := (k2.b2.set (.row (nz z) 47 5 true false))
  have c3 := k3.obj
  refine awpL_restE (by simp [go_sem]; exact ⟨rfl, rfl⟩) ?_; try dsimp only [thn, inBlk]
  (repeat' first
    | refine AWP.seq ?_
    | refine AWP.block ?_
    | (refine AWP.skip ?_; try dsimp only [thn, inBlk])
    | (refine AWP.exit ?_; try simp only [thn, inBlk, if_true, reduceIte, Nat.reduceEqDiff])
    | (refine AWP.ret ?_; try dsimp only [thn, inBlk])
    | (refine AWP.condT ?_ ?_; (focus (simp [go_sem, ci, c2, q1, q2, q3, q4]; done)))
    | (refine AWP.condF ?_ ?_; (focus (simp [go_sem, ci, c2, q1, q2, q3, q4]; done)))
    | (apply AWP.rE; (focus (simp [go_sem, ci, c2, q1, q2, q3, q4]; exact ⟨rfl, rfl⟩)); try dsimp only [thn, inBlk])
    | fail)
  simp [bodyQ, thn, inBlk, resA, resV, go_sem, c3]
  refine ⟨z, ?_, .inl ⟨hc, List.mem_of_getElem? hzq, by rw [hz1], by rw [hz1]; exact hg⟩, k3.tail⟩
  rw [hc]
theorem cell1 {c : List Value} {o : Nat} {x : List UInt8 × Nd} {a : Option Addr} {cap : Nat} (h : (c.drop o).take 5 = agN x a cap) : c[o + 1]? = some (.bool x.2.dir) := by
  have := congrArg (·[1]?) h
  simp only [List.getElem?_take, List.getElem?_drop] at this
  simpa [agN] using this
theorem cell4 {c : List Value} {o : Nat} {x : List UInt8 × Nd} {a : Option Addr} {cap : Nat} (h : (c.drop o).take 5 = agN x a cap) : c[o + 4]? = some (.slice a x.2.data.length cap) := by
  have := congrArg (·[4]?) h
  simp only [List.getElem?_take, List.getElem?_drop] at this
  simpa [agN] using this
def ReadP (O : Old) (R : List Chunk) (i : Nat) (v : Value) (zs : List NZ) (xs : TL) (who p : List UInt8) (r : Value) (h' : AHeap) : Prop :=
  ∃ a cap, r = .tuple #[.slice a (rdR xs who p).2.length cap, .int .i64 (rdR xs who p).1] ∧ Own O h' (ob 5 (.slice a (rdR xs who p).2.length cap) (rdR xs who p).2 :: cell i (rrow v) :: nzs v zs :: R)
set_option maxHeartbeats 8000000 in
theorem rread_calls {who p : List UInt8} {v : Value} (hX : RX xs) (hz : zs.map (·.1) = xs) (hdl : ∀ x ∈ xs, x.2.data.length ≤ 1000) (hB : ∀ z ∈ zs, ∀ hh, Own O hh R → Bytes hh (.slice z.2.1 z.1.2.data.length z.2.2) z.1.2.data) (k : Own O h (cell i (rrow v) :: nzs v zs :: R)) (hp : p.length ≤ 100000) :
    ACalls Tryz.prog 50 #[ptr i, tx who, tx p] h (ReadP O R i v zs xs who p) := by
  refine ACalls.of_awp (args := [ptr i, tx who, tx p]) (n := 51) Tryz.func50 rfl rfl (by show 3 ≤ 51; omega) ?_
  (repeat' first
    | refine AWP.seq ?_
    | refine AWP.block ?_
    | (refine AWP.skip ?_; try dsimp only [thn, inBlk])
    | (refine AWP.exit ?_; try simp only [thn, inBlk, if_true, reduceIte, Nat.reduceEqDiff])
    | (refine AWP.ret ?_; try dsimp only [thn, inBlk])
    | (refine AWP.condT ?_ ?_; (focus (simp [go_sem]; done)))
    | (refine AWP.condF ?_ ?_; (focus (simp [go_sem]; done)))
    | (apply AWP.rE; (focus (simp [go_sem]; exact ⟨rfl, rfl⟩)); try dsimp only [thn, inBlk])
    | fail)
  refine AWP.callE (by simp [go_sem]; exact ⟨rfl, rfl, rfl, rfl, rfl⟩) (by kernel_rfl) ?_
  refine (rfind2_calls (who := who) (p := p) hX (hz := hz) k hp).mono ?_
  rintro r h2 ⟨rfl, k2⟩
  have bad : ∀ (y : Int), rdR xs who p = (y, []) → ∀ {hh : AHeap}, Own O hh (cell i (rrow v) :: nzs v zs :: R) → ReadP O R i v zs xs who p (.tuple #[.slice (some ⟨hh.next, 0, none⟩) 0 0, .int .i64 y]) (hh.push (.row [] 5 1 true false)) := fun y e {hh} kk => by
    have k3 : Own O _ (ob 5 (.slice (some ⟨hh.next, 0, none⟩) 0 0) [] :: cell i (rrow v) :: nzs v zs :: R) := (kk.push (.row [] 5 1 true false)).row_any (n := 0) rfl
    unfold ReadP
    rw [e]
    exact ⟨some ⟨hh.next, 0, none⟩, 0, rfl, k3⟩
  by_cases hc : findE xs who p = 0
  rotate_left
  · have hc' : (findE xs who p != 0) = true := by simpa using hc
    have e : rdR xs who p = (findE xs who p, []) := by unfold rdR; rw [if_neg hc]
    rw [if_neg hc]
    have b := bad _ e k2
    generalize findE xs who p = y at *
    refine awpL_restE (by simp [go_sem]; exact ⟨rfl, rfl⟩) ?_; try dsimp only [thn, inBlk]
    (repeat' first
      | refine AWP.seq ?_
      | refine AWP.block ?_
      | (refine AWP.skip ?_; try dsimp only [thn, inBlk])
      | (refine AWP.exit ?_; try simp only [thn, inBlk, if_true, reduceIte, Nat.reduceEqDiff])
      | (refine AWP.ret ?_; try dsimp only [thn, inBlk])
      | (refine AWP.condT ?_ ?_; (focus (simp [go_sem, hc']; done)))
      | (refine AWP.condF ?_ ?_; (focus (simp [go_sem, hc']; done)))
      | (apply AWP.rE; (focus (simp [go_sem, hc']; exact ⟨rfl, rfl⟩)); try dsimp only [thn, inBlk])
      | fail)
    simp [bodyQ, thn, inBlk, resA, resV, go_sem]
    exact b
  rw [if_pos hc, hc]
  obtain ⟨nd, hg⟩ := find_get hc
  obtain ⟨q, hq, hqf, hqv⟩ := node_ix hg
  obtain ⟨z, hzq, hz1⟩ := node_z hz hq
  obtain ⟨bi, bo, cc, e', sz, ti, ro, q1, q2, q3, q4, q5⟩ := nz_at k2.b1 hzq (kd := .i64)
  have ci := k2.obj
  have q6 := cell1 (x := z.1) (a := z.2.1) (cap := z.2.2) q4
  have q7 := cell4 (x := z.1) (a := z.2.1) (cap := z.2.2) q4
  have e0 : rdR xs who p = if nd.dir = true then (113, []) else if may who nd 4 = false then (114, []) else (0, nd.data) := by
    unfold rdR; rw [if_pos hc, hg]
  have hBz := hB z (List.mem_of_getElem? hzq)
  obtain ⟨zx, za, zc⟩ := z
  dsimp only at hz1 q6 q7 hBz
  subst hz1
  rw [hqv]
  cases hdir : nd.dir
  rotate_left
  · rw [hdir, if_pos rfl] at e0
    have b := bad _ e0 k2
    dsimp only at q6
    rw [hdir] at q6
    refine awpL_restE (by simp [go_sem]; exact ⟨rfl, rfl⟩) ?_; try dsimp only [thn, inBlk]
    (repeat' first
      | refine AWP.seq ?_
      | refine AWP.block ?_
      | (refine AWP.skip ?_; try dsimp only [thn, inBlk])
      | (refine AWP.exit ?_; try simp only [thn, inBlk, if_true, reduceIte, Nat.reduceEqDiff])
      | (refine AWP.ret ?_; try dsimp only [thn, inBlk])
      | (refine AWP.condT ?_ ?_; (focus (simp [go_sem, ci, q1, q2, q6]; done)))
      | (refine AWP.condF ?_ ?_; (focus (simp [go_sem, ci, q1, q2, q6]; done)))
      | (apply AWP.rE; (focus (simp [go_sem, ci, q1, q2, q6]; exact ⟨rfl, rfl⟩)); try dsimp only [thn, inBlk])
      | fail)
    simp [bodyQ, thn, inBlk, resA, resV, go_sem]
    exact b
  rw [hdir, if_neg (by decide)] at e0
  dsimp only at q6
  rw [hdir] at q6
  refine awpL_restE (by simp [go_sem]; exact ⟨rfl, rfl⟩) ?_; try dsimp only [thn, inBlk]
  (repeat' first
    | refine AWP.seq ?_
    | refine AWP.block ?_
    | (refine AWP.skip ?_; try dsimp only [thn, inBlk])
    | (refine AWP.exit ?_; try simp only [thn, inBlk, if_true, reduceIte, Nat.reduceEqDiff])
    | (refine AWP.ret ?_; try dsimp only [thn, inBlk])
    | (refine AWP.condT ?_ ?_; (focus (simp [go_sem, ci, q1, q2, q6]; done)))
    | (refine AWP.condF ?_ ?_; (focus (simp [go_sem, ci, q1, q2, q6]; done)))
    | (apply AWP.rE; (focus (simp [go_sem, ci, q1, q2, q6]; exact ⟨rfl, rfl⟩)); try dsimp only [thn, inBlk])
    | fail)
  refine AWP.callE (by simp [go_sem, ci, q1, q2, q3, q4]; exact ⟨rfl, rfl, rfl, rfl, rfl⟩) (by kernel_rfl) ?_
  refine (rmay_calls (who := who) (x := (p, nd)) (a := za) (cap := zc) (bit := 4) k2 (hX.mode hq) (by simp)).mono ?_
  rintro r h7 ⟨rfl, k7⟩
  dsimp only
  cases hmay : may who nd 4
  · rw [hmay, if_pos rfl] at e0
    have b := bad _ e0 k7
    refine awpL_restE (by simp [go_sem]; exact ⟨rfl, rfl⟩) ?_; try dsimp only [thn, inBlk]
    (repeat' first
      | refine AWP.seq ?_
      | refine AWP.block ?_
      | (refine AWP.skip ?_; try dsimp only [thn, inBlk])
      | (refine AWP.exit ?_; try simp only [thn, inBlk, if_true, reduceIte, Nat.reduceEqDiff])
      | (refine AWP.ret ?_; try dsimp only [thn, inBlk])
      | (refine AWP.condT ?_ ?_; (focus (simp [go_sem]; done)))
      | (refine AWP.condF ?_ ?_; (focus (simp [go_sem]; done)))
      | (apply AWP.rE; (focus (simp [go_sem]; exact ⟨rfl, rfl⟩)); try dsimp only [thn, inBlk])
      | fail)
    simp [bodyQ, thn, inBlk, resA, resV, go_sem]
    exact b
  rw [hmay, if_neg (by decide)] at e0
  have hdl1 := hdl _ (List.mem_of_getElem? hq)
  dsimp only at hdl1 q7 hBz
  obtain ⟨a9, n9, h9, e9, k9⟩ := k7.copy (P := Tryz.prog) (t := 32) (xt := 32) (xv := .slice za nd.data.length zc) (xs := nd.data) (i := h7.next) Tryz.underlying32 tsz5 tby5 tz5 nI32 (fun hh kk => hBz hh kk.tail.tail) (by omega) rfl
  obtain ⟨bi2, bo2, cc2, e2', sz2, ti2, ro2, r1, r2, r3, r4, r5⟩ := nz_at (k7.push (.row [] 5 1 true false)).b2 hzq (kd := .i64)
  have r7 := cell4 (x := (p, nd)) (a := za) (cap := zc) r4
  have ci7 := (k7.push (.row [] 5 1 true false)).b1.obj
  have ci8 := k7.obj
  have b : ReadP O R i v zs xs who p (.tuple #[.slice a9 nd.data.length n9, .int .i64 0]) h9 := by
    unfold ReadP; rw [e0]; exact ⟨a9, n9, rfl, k9⟩
  refine awpL_restE (by simp [go_sem]; exact ⟨rfl, rfl⟩) ?_; try dsimp only [thn, inBlk]
  (repeat' first
    | refine AWP.seq ?_
    | refine AWP.block ?_
    | (refine AWP.skip ?_; try dsimp only [thn, inBlk])
    | (refine AWP.exit ?_; try simp only [thn, inBlk, if_true, reduceIte, Nat.reduceEqDiff])
    | (refine AWP.ret ?_; try dsimp only [thn, inBlk])
    | (refine AWP.condT ?_ ?_; (focus (simp [go_sem, ci7, ci8, r1, r2, r7, e9]; done)))
    | (refine AWP.condF ?_ ?_; (focus (simp [go_sem, ci7, ci8, r1, r2, r7, e9]; done)))
    | (apply AWP.rE; (focus (simp [go_sem, ci7, ci8, r1, r2, r7, e9]; exact ⟨rfl, rfl⟩)); try dsimp only [thn, inBlk])
    | fail)
  simp [bodyQ, thn, inBlk, resA, resV, go_sem]
  exact b
def lsE (xs : TL) (who p : List UInt8) : Int := if findE xs who p = 0 then match get xs p with
    | some nd => if nd.dir = false then 112 else if may who nd 4 = false then 114 else 0
    | none => 0
  else findE xs who p
def ListP (O : Old) (R : List Chunk) (i : Nat) (v : Value) (zs : List NZ) (xs : TL) (who p : List UInt8) (r : Value) (h' : AHeap) : Prop :=
  ∃ a cap S, r = .tuple #[.slice a S.length cap, .int .i64 (lsE xs who p)] ∧ (lsE xs who p = 0 → S.Perm (kids xs p) ∧ Sd S) ∧ (lsE xs who p ≠ 0 → S = []) ∧ Own O h' (txs (.slice a S.length cap) S :: cell i (rrow v) :: nzs v zs :: R)
set_option maxHeartbeats 8000000 in
theorem rlist_calls {who p : List UInt8} {v : Value} (hX : RX xs) (hP : ∀ x ∈ xs, pathB x.1 = true ∧ x.1.length ≤ 100000) (hz : zs.map (·.1) = xs) (k : Own O h (cell i (rrow v) :: nzs v zs :: R)) (hp : p.length ≤ 100000) :
    ACalls Tryz.prog 53 #[ptr i, tx who, tx p] h (ListP O R i v zs xs who p) := by
  refine ACalls.of_awp (args := [ptr i, tx who, tx p]) (n := 45) Tryz.func53 rfl rfl (by show 3 ≤ 45; omega) ?_
  (repeat' first
    | refine AWP.seq ?_
    | refine AWP.block ?_
    | (refine AWP.skip ?_; try dsimp only [thn, inBlk])
    | (refine AWP.exit ?_; try simp only [thn, inBlk, if_true, reduceIte, Nat.reduceEqDiff])
    | (refine AWP.ret ?_; try dsimp only [thn, inBlk])
    | (refine AWP.condT ?_ ?_; (focus (simp [go_sem]; done)))
    | (refine AWP.condF ?_ ?_; (focus (simp [go_sem]; done)))
    | (apply AWP.rE; (focus (simp [go_sem]; exact ⟨rfl, rfl⟩)); try dsimp only [thn, inBlk])
    | fail)
  refine AWP.callE (by simp [go_sem]; exact ⟨rfl, rfl, rfl, rfl, rfl⟩) (by kernel_rfl) ?_
  refine (rfind2_calls (who := who) (p := p) hX (hz := hz) k hp).mono ?_
  rintro r h2 ⟨rfl, k2⟩
  have bad : ∀ (y : Int), lsE xs who p = y → y ≠ 0 → ∀ {hh : AHeap}, Own O hh (cell i (rrow v) :: nzs v zs :: R) → ListP O R i v zs xs who p (.tuple #[.slice (some ⟨hh.next, 0, none⟩) 0 0, .int .i64 y]) (hh.push (.row [] 9 1 true false)) := fun y e hy {hh} kk => by
    have k3 : Own O _ (txs (.slice (some ⟨hh.next, 0, none⟩) 0 0) [] :: cell i (rrow v) :: nzs v zs :: R) := (kk.push (.row [] 9 1 true false)).row_any (n := 0) rfl
    unfold ListP
    rw [e]
    exact ⟨some ⟨hh.next, 0, none⟩, 0, [], rfl, fun q => absurd q hy, fun _ => rfl, k3⟩
  by_cases hc : findE xs who p = 0
  rotate_left
  · have hc' : (findE xs who p != 0) = true := by simpa using hc
    have e : lsE xs who p = findE xs who p := by unfold lsE; rw [if_neg hc]
    rw [if_neg hc]
    have b := bad _ e hc k2
    generalize findE xs who p = y at *
    refine awpL_restE (by simp [go_sem]; exact ⟨rfl, rfl⟩) ?_; try dsimp only [thn, inBlk]
    (repeat' first
      | refine AWP.seq ?_
      | refine AWP.block ?_
      | (refine AWP.skip ?_; try dsimp only [thn, inBlk])
      | (refine AWP.exit ?_; try simp only [thn, inBlk, if_true, reduceIte, Nat.reduceEqDiff])
      | (refine AWP.ret ?_; try dsimp only [thn, inBlk])
      | (refine AWP.condT ?_ ?_; (focus (simp [go_sem, hc']; done)))
      | (refine AWP.condF ?_ ?_; (focus (simp [go_sem, hc']; done)))
      | (apply AWP.rE; (focus (simp [go_sem, hc']; exact ⟨rfl, rfl⟩)); try dsimp only [thn, inBlk])
      | fail)
    simp [bodyQ, thn, inBlk, resA, resV, go_sem]
    exact b
  rw [if_pos hc, hc]
  obtain ⟨nd, hg⟩ := find_get hc
  obtain ⟨q, hq, hqf, hqv⟩ := node_ix hg
  obtain ⟨bi, bo, cc, e', sz, ti, ro, a, cap, q1, q2, q3, q4, q5⟩ := nzs_row hz k2.b1 hq (kd := .i64)
  have ci := k2.obj
  have q6 := cell1 q4
  dsimp only at q6
  have e0 : lsE xs who p = if nd.dir = false then 112 else if may who nd 4 = false then 114 else 0 := by
    unfold lsE; rw [if_pos hc, hg]
  rw [hqv]
  cases hdir : nd.dir
  · rw [hdir, if_pos rfl] at e0
    have b := bad _ e0 (by decide) k2
    rw [hdir] at q6
    refine awpL_restE (by simp [go_sem]; exact ⟨rfl, rfl⟩) ?_; try dsimp only [thn, inBlk]
    (repeat' first
      | refine AWP.seq ?_
      | refine AWP.block ?_
      | (refine AWP.skip ?_; try dsimp only [thn, inBlk])
      | (refine AWP.exit ?_; try simp only [thn, inBlk, if_true, reduceIte, Nat.reduceEqDiff])
      | (refine AWP.ret ?_; try dsimp only [thn, inBlk])
      | (refine AWP.condT ?_ ?_; (focus (simp [go_sem, ci, q1, q2, q6]; done)))
      | (refine AWP.condF ?_ ?_; (focus (simp [go_sem, ci, q1, q2, q6]; done)))
      | (apply AWP.rE; (focus (simp [go_sem, ci, q1, q2, q6]; exact ⟨rfl, rfl⟩)); try dsimp only [thn, inBlk])
      | fail)
    simp [bodyQ, thn, inBlk, resA, resV, go_sem]
    exact b
  rw [hdir, if_neg (by decide)] at e0
  rw [hdir] at q6
  refine awpL_restE (by simp [go_sem]; exact ⟨rfl, rfl⟩) ?_; try dsimp only [thn, inBlk]
  (repeat' first
    | refine AWP.seq ?_
    | refine AWP.block ?_
    | (refine AWP.skip ?_; try dsimp only [thn, inBlk])
    | (refine AWP.exit ?_; try simp only [thn, inBlk, if_true, reduceIte, Nat.reduceEqDiff])
    | (refine AWP.ret ?_; try dsimp only [thn, inBlk])
    | (refine AWP.condT ?_ ?_; (focus (simp [go_sem, ci, q1, q2, q6]; done)))
    | (refine AWP.condF ?_ ?_; (focus (simp [go_sem, ci, q1, q2, q6]; done)))
    | (apply AWP.rE; (focus (simp [go_sem, ci, q1, q2, q6]; exact ⟨rfl, rfl⟩)); try dsimp only [thn, inBlk])
    | fail)
  refine AWP.callE (by simp [go_sem, ci, q1, q2, q3, q4]; exact ⟨rfl, rfl, rfl, rfl, rfl⟩) (by kernel_rfl) ?_
  refine (rmay_calls (who := who) (x := (p, nd)) (a := a) (cap := cap) (bit := 4) k2 (hX.mode hq) (by simp)).mono ?_
  rintro r h7 ⟨rfl, k7⟩
  dsimp only
  cases hmay : may who nd 4
  · rw [hmay, if_pos rfl] at e0
    have b := bad _ e0 (by decide) k7
    refine awpL_restE (by simp [go_sem]; exact ⟨rfl, rfl⟩) ?_; try dsimp only [thn, inBlk]
    (repeat' first
      | refine AWP.seq ?_
      | refine AWP.block ?_
      | (refine AWP.skip ?_; try dsimp only [thn, inBlk])
      | (refine AWP.exit ?_; try simp only [thn, inBlk, if_true, reduceIte, Nat.reduceEqDiff])
      | (refine AWP.ret ?_; try dsimp only [thn, inBlk])
      | (refine AWP.condT ?_ ?_; (focus (simp [go_sem]; done)))
      | (refine AWP.condF ?_ ?_; (focus (simp [go_sem]; done)))
      | (apply AWP.rE; (focus (simp [go_sem]; exact ⟨rfl, rfl⟩)); try dsimp only [thn, inBlk])
      | fail)
    simp [bodyQ, thn, inBlk, resA, resV, go_sem]
    exact b
  rw [hmay, if_neg (by decide)] at e0
  refine awpL_restE (by simp [go_sem]; exact ⟨rfl, rfl⟩) ?_; try dsimp only [thn, inBlk]
  (repeat' first
    | refine AWP.seq ?_
    | refine AWP.block ?_
    | (refine AWP.skip ?_; try dsimp only [thn, inBlk])
    | (refine AWP.exit ?_; try simp only [thn, inBlk, if_true, reduceIte, Nat.reduceEqDiff])
    | (refine AWP.ret ?_; try dsimp only [thn, inBlk])
    | (refine AWP.condT ?_ ?_; (focus (simp [go_sem]; done)))
    | (refine AWP.condF ?_ ?_; (focus (simp [go_sem]; done)))
    | (apply AWP.rE; (focus (simp [go_sem]; exact ⟨rfl, rfl⟩)); try dsimp only [thn, inBlk])
    | fail)
  refine AWP.callE (by simp [go_sem]; exact ⟨rfl, rfl, rfl, rfl, rfl⟩) (by kernel_rfl) ?_
  refine (rnames2_calls (q := p) hX hP (hz := hz) k7).mono ?_
  rintro r h9 ⟨a9, c9, S, rfl, hS1, hS2, k9⟩
  have b : ListP O R i v zs xs who p (.tuple #[.slice a9 S.length c9, .int .i64 0]) h9 := by
    unfold ListP; rw [e0]; exact ⟨a9, c9, S, rfl, fun _ => ⟨hS1, hS2⟩, fun q => absurd rfl q, k9⟩
  refine awpL_restE (by simp [go_sem]; exact ⟨rfl, rfl⟩) ?_; try dsimp only [thn, inBlk]
  (repeat' first
    | refine AWP.seq ?_
    | refine AWP.block ?_
    | (refine AWP.skip ?_; try dsimp only [thn, inBlk])
    | (refine AWP.exit ?_; try simp only [thn, inBlk, if_true, reduceIte, Nat.reduceEqDiff])
    | (refine AWP.ret ?_; try dsimp only [thn, inBlk])
    | (refine AWP.condT ?_ ?_; (focus (simp [go_sem]; done)))
    | (refine AWP.condF ?_ ?_; (focus (simp [go_sem]; done)))
    | (apply AWP.rE; (focus (simp [go_sem]; exact ⟨rfl, rfl⟩)); try dsimp only [thn, inBlk])
    | fail)
  simp [bodyQ, thn, inBlk, resA, resV, go_sem]
  exact b
end
end L23
end

section
open Go Ab Go.Proofs
namespace L23
set_option autoImplicit false
set_option linter.unusedSimpArgs false
set_option linter.unusedVariables false
section
variable {O : Old} {h : AHeap} {R : List Chunk} {i : Nat} {xs : TL} {zs : List NZ}
theorem nz_piece {v : Value} (k : Own O h (nzs v zs :: R)) {lo hi : Nat} (h1 : lo ≤ hi) (h2 : hi ≤ zs.length)
    {l u : Option Value} (hl : (l = none ∧ lo = 0) ∨ ∃ kd, l = some (.int kd lo)) (hu : (u = none ∧ hi = zs.length) ∨ ∃ kd, u = some (.int kd hi)) :
    sliceR Tryz.prog h 39 v l u none = some (sliceV 5 lo hi v) ∧ srcCells h 5 (sliceV 5 lo hi v) = some (hi - lo, (((zs.drop lo).take (hi - lo)).map nz).flatten) := by
  obtain ⟨s1, s2⟩ := k.os_sl.piece Tryz.underlying39 tsz47 h1 h2 hl hu
  refine ⟨s1, ?_⟩
  rw [s2.src, flat_piece lo (hi - lo) nz_all (by rw [List.length_map]; omega)]
  simp only [List.map_drop, List.map_take]
end
end L23
end

