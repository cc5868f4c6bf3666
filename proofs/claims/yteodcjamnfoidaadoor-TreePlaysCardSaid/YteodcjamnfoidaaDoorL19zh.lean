import Derived.Test.YteodcjamnfoidaaDoorL19zg
open Go Ab Go.Proofs
namespace L19
set_option autoImplicit false
set_option linter.unusedSimpArgs false
set_option linter.unusedVariables false

theorem comeF_top {T : TL} {who : List UInt8} : ∀ n i, comeF T who [47] n i = 0
  | 0, _ => rfl
  | n + 1, i => by rw [comeF, if_neg (by simp), comeF_top n]
structure RX (xs : TL) : Prop where
  md : ∀ x ∈ xs, x.2.mode ≤ 63
  ln : xs.length ≤ 1000
section
variable {O : Old} {h : AHeap} {R : List Chunk} {i : Nat} {xs : TL}
set_option maxHeartbeats 16000000 in
theorem rcome_calls {who p : List UInt8} {v : Value} (hX : RX xs) (k : Own O h (cell i (rrow v) :: nds v xs :: R)) (hp : p.length ≤ 100000) :
    ACalls Tryd.prog 45 #[ptr i, tx who, tx p] h fun r h' => r = .int .i64 (comeE xs who p) ∧ Own O h' (cell i (rrow v) :: nds v xs :: R) := by
  refine ACalls.of_awp (args := [ptr i, tx who, tx p]) (n := 56) Tryd.func45 rfl rfl (by show 3 ≤ 56; omega) ?_
  have hln := hX.ln
  (repeat' first
    | refine AWP.seq ?_
    | refine AWP.block ?_
    | (refine AWP.skip ?_; try dsimp only [thn, inBlk])
    | (refine AWP.exit ?_; try simp only [thn, inBlk, if_true, reduceIte, Nat.reduceEqDiff])
    | (refine AWP.ret ?_; try dsimp only [thn, inBlk])
    | (refine AWP.condT ?_ ?_; (focus (simp [go_sem]; done)))
    | (refine AWP.condF ?_ ?_; (focus (simp [go_sem]; done)))
    | (apply AWP.rE; (focus (simp [go_sem]; exact ⟨rfl, rfl⟩)); try dsimp only [thn, inBlk])
    | fail)
  refine AWP.callE (by simp [go_sem]; exact ⟨rfl, rfl, rfl, rfl, rfl⟩) (by kernel_rfl) ?_
  refine (rpath_calls (l := p) k hp).mono ?_
  rintro r h1 ⟨rfl, k1⟩
  cases hpb : pathB p
  · have e : comeE xs who p = 30 := by simp [comeE, hpb]
    rw [e]
    refine awpL_restE (by simp [go_sem]; exact ⟨rfl, rfl⟩) ?_; try dsimp only [thn, inBlk]
    (repeat' first
      | refine AWP.seq ?_
      | refine AWP.block ?_
      | (refine AWP.skip ?_; try dsimp only [thn, inBlk])
      | (refine AWP.exit ?_; try simp only [thn, inBlk, if_true, reduceIte, Nat.reduceEqDiff])
      | (refine AWP.ret ?_; try dsimp only [thn, inBlk])
      | (refine AWP.condT ?_ ?_; (focus (simp [go_sem]; done)))
      | (refine AWP.condF ?_ ?_; (focus (simp [go_sem]; done)))
      | (apply AWP.rE; (focus (simp [go_sem]; exact ⟨rfl, rfl⟩)); try dsimp only [thn, inBlk])
      | fail)
    simp [bodyQ, thn, inBlk, resA, resV, go_sem]
    exact k1
  have e : comeE xs who p = comeF xs who p p.length 0 := by simp [comeE, hpb]
  rw [e]
  refine awpL_restE (by simp [go_sem]; exact ⟨rfl, rfl⟩) ?_; try dsimp only [thn, inBlk]
  (repeat' first
    | refine AWP.seq ?_
    | refine AWP.block ?_
    | (refine AWP.skip ?_; try dsimp only [thn, inBlk])
    | (refine AWP.exit ?_; try simp only [thn, inBlk, if_true, reduceIte, Nat.reduceEqDiff])
    | (refine AWP.ret ?_; try dsimp only [thn, inBlk])
    | (refine AWP.condT ?_ ?_; (focus (simp [go_sem]; done)))
    | (refine AWP.condF ?_ ?_; (focus (simp [go_sem]; done)))
    | (apply AWP.rE; (focus (simp [go_sem]; exact ⟨rfl, rfl⟩)); try dsimp only [thn, inBlk])
    | fail)
  refine AWP.loopR [0, 1, 2, 7] (fun m s h' => ∃ j : Nat, j ≤ p.length ∧ m = p.length - j ∧ s = ⟨56, [(0, ptr i), (1, tx who), (2, tx p), (7, .int .i64 j)]⟩ ∧ comeF xs who p p.length 0 = comeF xs who p (p.length - j) j ∧ Own O h' (cell i (rrow v) :: nds v xs :: R)) ?_ ?_
  · exact ⟨_, 0, by omega, rfl, by simp [go_sem], rfl, k1⟩
  rintro m s hB ⟨j, hj, rfl, rfl, hF, kB⟩
  by_cases hjm : j < p.length
  rotate_left
  · have hjm' : ¬ (j : Int) < p.length := by omega
    have e2 : comeF xs who p p.length 0 = 0 := by rw [hF, show p.length - j = 0 by omega, comeF]
    rw [e2]
    (repeat' first
      | refine AWP.seq ?_
      | refine AWP.block ?_
      | (refine AWP.skip ?_; try dsimp only [thn, inBlk])
      | (refine AWP.exit ?_; try simp only [thn, inBlk, if_true, reduceIte, Nat.reduceEqDiff])
      | (refine AWP.ret ?_; try dsimp only [thn, inBlk])
      | (refine AWP.condT ?_ ?_; (focus (simp [go_sem, hjm']; done)))
      | (refine AWP.condF ?_ ?_; (focus (simp [go_sem, hjm']; done)))
      | (apply AWP.rE; (focus (simp [go_sem, hjm']; exact ⟨rfl, rfl⟩)); try dsimp only [thn, inBlk])
      | fail)
    simp [bodyQ, thn, inBlk, resA, resV, go_sem]
    exact kB
  have hjm' : (j : Int) < p.length := by omega
  by_cases htop : p = [47]
  · have htop' : (p != [47]) = false := by simpa using htop
    have htop2 : (p == [47]) = true := by simpa using htop
    have e2 : comeF xs who p p.length 0 = 0 := by rw [htop]; exact comeF_top _ _
    rw [e2]
    (repeat' first
      | refine AWP.seq ?_
      | refine AWP.block ?_
      | (refine AWP.skip ?_; try dsimp only [thn, inBlk])
      | (refine AWP.exit ?_; try simp only [thn, inBlk, if_true, reduceIte, Nat.reduceEqDiff])
      | (refine AWP.ret ?_; try dsimp only [thn, inBlk])
      | (refine AWP.condT ?_ ?_; (focus (simp [go_sem, hjm', htop', htop2]; done)))
      | (refine AWP.condF ?_ ?_; (focus (simp [go_sem, hjm', htop', htop2]; done)))
      | (apply AWP.rE; (focus (simp [go_sem, hjm', htop', htop2]; exact ⟨rfl, rfl⟩)); try dsimp only [thn, inBlk])
      | fail)
    simp [bodyQ, thn, inBlk, resA, resV, go_sem]
    exact kB
  have htop' : (p != [47]) = true := by simpa using htop
  have htop2 : (p == [47]) = false := by simpa using htop
  have w1 : IntKind.i64.wrap ((j : Int) + 1) = ((j + 1 : Nat) : Int) := by rw [wI64 (by omega) (by omega)]; omega
  have x1 : indexP Tryd.prog 9 (tx p) (.int .i64 (j : Int)) = some (.int .u8 p[j].toNat) := str_index Tryd.underlying9 hjm
  have hc : p[j]? = some p[j] := List.getElem?_eq_getElem hjm
  obtain ⟨n, hn⟩ : ∃ n, p.length - j = n + 1 := ⟨p.length - j - 1, by omega⟩
  have hn2 : p.length - (j + 1) = n := by omega
  rw [hn, comeF, hc] at hF
  generalize p[j] = c at x1 hc hF
  by_cases h47 : c = 47
  rotate_left
  · have h47' : ((c.toNat : Int) != 47) = true := by have := neB (d := 47) h47; simp at this ⊢; omega
    rw [if_neg (by intro q; exact h47 (Option.some.inj q.1))] at hF
    (repeat' first
      | refine AWP.seq ?_
      | refine AWP.block ?_
      | (refine AWP.skip ?_; try dsimp only [thn, inBlk])
      | (refine AWP.exit ?_; try simp only [thn, inBlk, if_true, reduceIte, Nat.reduceEqDiff])
      | (refine AWP.ret ?_; try dsimp only [thn, inBlk])
      | (refine AWP.condT ?_ ?_; (focus (simp [go_sem, hjm', htop', htop2, x1, h47', w1]; done)))
      | (refine AWP.condF ?_ ?_; (focus (simp [go_sem, hjm', htop', htop2, x1, h47', w1]; done)))
      | (apply AWP.rE; (focus (simp [go_sem, hjm', htop', htop2, x1, h47', w1]; exact ⟨rfl, rfl⟩)); try dsimp only [thn, inBlk])
      | fail)
    exact ⟨p.length - (j + 1), by omega, j + 1, by omega, rfl, by simp [go_sem], by rw [hF, hn2], kB⟩
  have h47' : ((c.toNat : Int) != 47) = false := by rw [h47]; rfl
  rw [if_pos ⟨by rw [h47], htop⟩] at hF
  obtain ⟨up, hup⟩ : ∃ up, up = p.take (max j 1) := ⟨_, rfl⟩
  rw [← hup] at hF
  have s1 : ∀ hh, sliceR Tryd.prog hh 9 (tx p) none (some (.int .i64 (j : Int))) none = some (tx (p.take j)) := fun hh => by
    have := str_slice (P := Tryd.prog) (h := hh) Tryd.underlying9 (l := p) (lo := 0) (hi := j) (a := none) (u := some (.int .i64 (j : Int))) (by omega) (by omega) (.inl ⟨rfl, rfl⟩) (.inr ⟨.i64, rfl⟩)
    exact this
  (repeat' first
    | refine AWP.seq ?_
    | refine AWP.block ?_
    | (refine AWP.skip ?_; try dsimp only [thn, inBlk])
    | (refine AWP.exit ?_; try simp only [thn, inBlk, if_true, reduceIte, Nat.reduceEqDiff])
    | (refine AWP.ret ?_; try dsimp only [thn, inBlk])
    | (refine AWP.condT ?_ ?_; (focus (simp [go_sem, hjm', htop', htop2, x1, h47', s1]; done)))
    | (refine AWP.condF ?_ ?_; (focus (simp [go_sem, hjm', htop', htop2, x1, h47', s1]; done)))
    | (apply AWP.rE; (focus (simp [go_sem, hjm', htop', htop2, x1, h47', s1]; exact ⟨rfl, rfl⟩)); try dsimp only [thn, inBlk])
    | fail)
  refine AWP.cutT [0, 1, 2, 7, 8] (fun s h' => s = ⟨56, [(0, ptr i), (1, tx who), (2, tx p), (7, .int .i64 j), (8, tx up)]⟩ ∧ h' = hB) ?_ ?_
  · by_cases h0 : j = 0
    · subst h0
      have hu : up = [47] := by
        rw [hup]
        rcases p with _ | ⟨d, p⟩
        · simp at hjm
        · simp at hc; simp [hc, h47]
      rw [hu]
      (repeat' first
        | refine AWP.seq ?_
        | refine AWP.block ?_
        | (refine AWP.skip ?_; try dsimp only [thn, inBlk])
        | (refine AWP.exit ?_; try simp only [thn, inBlk, if_true, reduceIte, Nat.reduceEqDiff])
        | (refine AWP.ret ?_; try dsimp only [thn, inBlk])
        | (refine AWP.condT ?_ ?_; (focus (simp [go_sem]; done)))
        | (refine AWP.condF ?_ ?_; (focus (simp [go_sem]; done)))
        | (apply AWP.rE; (focus (simp [go_sem]; exact ⟨rfl, rfl⟩)); try dsimp only [thn, inBlk])
        | fail)
      exact ⟨by simp [go_sem], rfl⟩
    · have h0' : ((j : Int) == 0) = false := by simp; omega
      have hu : up = p.take j := by rw [hup, show max j 1 = j by omega]
      rw [hu]
      (repeat' first
        | refine AWP.seq ?_
        | refine AWP.block ?_
        | (refine AWP.skip ?_; try dsimp only [thn, inBlk])
        | (refine AWP.exit ?_; try simp only [thn, inBlk, if_true, reduceIte, Nat.reduceEqDiff])
        | (refine AWP.ret ?_; try dsimp only [thn, inBlk])
        | (refine AWP.condT ?_ ?_; (focus (simp [go_sem, h0']; done)))
        | (refine AWP.condF ?_ ?_; (focus (simp [go_sem, h0']; done)))
        | (apply AWP.rE; (focus (simp [go_sem, h0']; exact ⟨rfl, rfl⟩)); try dsimp only [thn, inBlk])
        | fail)
      exact ⟨by simp [go_sem], rfl⟩
  rintro s hC ⟨rfl, rfl⟩
  (repeat' first
    | refine AWP.seq ?_
    | refine AWP.block ?_
    | (refine AWP.skip ?_; try dsimp only [thn, inBlk])
    | (refine AWP.exit ?_; try simp only [thn, inBlk, if_true, reduceIte, Nat.reduceEqDiff])
    | (refine AWP.ret ?_; try dsimp only [thn, inBlk])
    | (refine AWP.condT ?_ ?_; (focus (simp [go_sem]; done)))
    | (refine AWP.condF ?_ ?_; (focus (simp [go_sem]; done)))
    | (apply AWP.rE; (focus (simp [go_sem]; exact ⟨rfl, rfl⟩)); try dsimp only [thn, inBlk])
    | fail)
  refine AWP.callE (by simp [go_sem]; exact ⟨rfl, rfl, rfl, rfl, rfl⟩) (by kernel_rfl) ?_
  refine (rat_calls (p := up) kB (by omega)).mono ?_
  rintro r h5 ⟨rfl, rfl⟩
  have ci := kB.obj
  cases hi : idxE xs up with
  | none =>
    obtain ⟨g1, g2⟩ := idx_none hi
    rw [g1] at hF
    dsimp only at hF
    rw [g2, hF]
    refine awpL_restE (by simp [go_sem]; exact ⟨rfl, rfl⟩) ?_; try dsimp only [thn, inBlk]
    (repeat' first
      | refine AWP.seq ?_
      | refine AWP.block ?_
      | (refine AWP.skip ?_; try dsimp only [thn, inBlk])
      | (refine AWP.exit ?_; try simp only [thn, inBlk, if_true, reduceIte, Nat.reduceEqDiff])
      | (refine AWP.ret ?_; try dsimp only [thn, inBlk])
      | (refine AWP.condT ?_ ?_; (focus (simp [go_sem]; done)))
      | (refine AWP.condF ?_ ?_; (focus (simp [go_sem]; done)))
      | (apply AWP.rE; (focus (simp [go_sem]; exact ⟨rfl, rfl⟩)); try dsimp only [thn, inBlk])
      | fail)
    simp [bodyQ, thn, inBlk, resA, resV, go_sem]
    exact kB
  | some q =>
    obtain ⟨nd, g1, g2, g3⟩ := idx_some hi
    rw [g2] at hF
    dsimp only at hF
    rw [g3]
    have hq0 : ¬ (q : Int) < 0 := by omega
    obtain ⟨bi, bo, cc, e', sz, ti, ro, a, cap, q1, q2, q3, q4, q5⟩ := nds_row kB.b1 g1 (kd := .i64)
    have q6 : cc[bo + 1]? = some (.bool nd.dir) := by
      have := congrArg (·[1]?) q4
      simp only [List.getElem?_take, List.getElem?_drop] at this
      simpa [agN] using this
    have hmd := hX.md _ (List.mem_of_getElem? g1)
    obtain ⟨va, vc, rfl⟩ := kB.b1.grecs_val
    cases hdir : nd.dir
    · rw [if_pos hdir] at hF
      rw [hdir] at q6
      rw [hF]
      refine awpL_restE (by simp [go_sem]; exact ⟨rfl, rfl⟩) ?_; try dsimp only [thn, inBlk]
      (repeat' first
        | refine AWP.seq ?_
        | refine AWP.block ?_
        | (refine AWP.skip ?_; try dsimp only [thn, inBlk])
        | (refine AWP.exit ?_; try simp only [thn, inBlk, if_true, reduceIte, Nat.reduceEqDiff])
        | (refine AWP.ret ?_; try dsimp only [thn, inBlk])
        | (refine AWP.condT ?_ ?_; (focus (simp [go_sem, hq0, ci, q1, q2, q6]; done)))
        | (refine AWP.condF ?_ ?_; (focus (simp [go_sem, hq0, ci, q1, q2, q6]; done)))
        | (apply AWP.rE; (focus (simp [go_sem, hq0, ci, q1, q2, q6]; exact ⟨rfl, rfl⟩)); try dsimp only [thn, inBlk])
        | fail)
      simp [bodyQ, thn, inBlk, resA, resV, go_sem]
      exact kB
    rw [if_neg (by rw [hdir]; decide)] at hF
    rw [hdir] at q6
    refine awpL_restE (by simp [go_sem]; exact ⟨rfl, rfl⟩) ?_; try dsimp only [thn, inBlk]
    (repeat' first
      | refine AWP.seq ?_
      | refine AWP.block ?_
      | (refine AWP.skip ?_; try dsimp only [thn, inBlk])
      | (refine AWP.exit ?_; try simp only [thn, inBlk, if_true, reduceIte, Nat.reduceEqDiff])
      | (refine AWP.ret ?_; try dsimp only [thn, inBlk])
      | (refine AWP.condT ?_ ?_; (focus (simp [go_sem, hq0, ci, q1, q2, q6]; done)))
      | (refine AWP.condF ?_ ?_; (focus (simp [go_sem, hq0, ci, q1, q2, q6]; done)))
      | (apply AWP.rE; (focus (simp [go_sem, hq0, ci, q1, q2, q6]; exact ⟨rfl, rfl⟩)); try dsimp only [thn, inBlk])
      | fail)
    refine AWP.callE (by simp [go_sem, ci, q1, q2, q3, q4]; exact ⟨rfl, rfl, rfl, rfl, rfl⟩) (by kernel_rfl) ?_
    refine (rmay_calls (who := who) (x := (up, nd)) (a := a) (cap := cap) (bit := 1) kB hmd (by simp)).mono ?_
    rintro r h7 ⟨rfl, k7⟩
    dsimp only
    cases hmay : may who nd 1
    · rw [if_pos hmay] at hF
      rw [hF]
      refine awpL_restE (by simp [go_sem]; exact ⟨rfl, rfl⟩) ?_; try dsimp only [thn, inBlk]
      (repeat' first
        | refine AWP.seq ?_
        | refine AWP.block ?_
        | (refine AWP.skip ?_; try dsimp only [thn, inBlk])
        | (refine AWP.exit ?_; try simp only [thn, inBlk, if_true, reduceIte, Nat.reduceEqDiff])
        | (refine AWP.ret ?_; try dsimp only [thn, inBlk])
        | (refine AWP.condT ?_ ?_; (focus (simp [go_sem]; done)))
        | (refine AWP.condF ?_ ?_; (focus (simp [go_sem]; done)))
        | (apply AWP.rE; (focus (simp [go_sem]; exact ⟨rfl, rfl⟩)); try dsimp only [thn, inBlk])
        | fail)
      simp [bodyQ, thn, inBlk, resA, resV, go_sem]
      exact k7
    · rw [if_neg (by rw [hmay]; decide)] at hF
      refine awpL_restE (by simp [go_sem]; exact ⟨rfl, rfl⟩) ?_; try dsimp only [thn, inBlk]
      (repeat' first
        | refine AWP.seq ?_
        | refine AWP.block ?_
        | (refine AWP.skip ?_; try dsimp only [thn, inBlk])
        | (refine AWP.exit ?_; try simp only [thn, inBlk, if_true, reduceIte, Nat.reduceEqDiff])
        | (refine AWP.ret ?_; try dsimp only [thn, inBlk])
        | (refine AWP.condT ?_ ?_; (focus (simp [go_sem, w1]; done)))
        | (refine AWP.condF ?_ ?_; (focus (simp [go_sem, w1]; done)))
        | (apply AWP.rE; (focus (simp [go_sem, w1]; exact ⟨rfl, rfl⟩)); try dsimp only [thn, inBlk])
        | fail)
      exact ⟨p.length - (j + 1), by omega, j + 1, by omega, rfl, by simp [go_sem], by rw [hF, hn2], k7⟩
theorem rfind_calls {who p : List UInt8} {v : Value} (hX : RX xs) (k : Own O h (cell i (rrow v) :: nds v xs :: R)) (hp : p.length ≤ 100000) :
    ACalls Tryd.prog 49 #[ptr i, tx who, tx p] h fun r h' => r = .tuple #[.int .i64 (if findE xs who p = 0 then idxV xs p else -1), .int .i64 (findE xs who p)] ∧ Own O h' (cell i (rrow v) :: nds v xs :: R) := by
  refine ACalls.of_awp (args := [ptr i, tx who, tx p]) (n := 23) Tryd.func49 rfl rfl (by show 3 ≤ 23; omega) ?_
  have hln := hX.ln
  (repeat' first
    | refine AWP.seq ?_
    | refine AWP.block ?_
    | (refine AWP.skip ?_; try dsimp only [thn, inBlk])
    | (refine AWP.exit ?_; try simp only [thn, inBlk, if_true, reduceIte, Nat.reduceEqDiff])
    | (refine AWP.ret ?_; try dsimp only [thn, inBlk])
    | (refine AWP.condT ?_ ?_; (focus (simp [go_sem]; done)))
    | (refine AWP.condF ?_ ?_; (focus (simp [go_sem]; done)))
    | (apply AWP.rE; (focus (simp [go_sem]; exact ⟨rfl, rfl⟩)); try dsimp only [thn, inBlk])
    | fail)
  refine AWP.callE (by simp [go_sem]; exact ⟨rfl, rfl, rfl, rfl, rfl⟩) (by kernel_rfl) ?_
  refine (rcome_calls (who := who) (p := p) hX k hp).mono ?_
  rintro r h1 ⟨rfl, k1⟩
  unfold findE
  generalize comeE xs who p = z at *
  by_cases hz : z = 0
  rotate_left
  · have hz' : (z != 0) = true := by simpa using hz
    simp only [if_neg hz]
    refine awpL_restE (by simp [go_sem]; exact ⟨rfl, rfl⟩) ?_; try dsimp only [thn, inBlk]
    (repeat' first
      | refine AWP.seq ?_
      | refine AWP.block ?_
      | (refine AWP.skip ?_; try dsimp only [thn, inBlk])
      | (refine AWP.exit ?_; try simp only [thn, inBlk, if_true, reduceIte, Nat.reduceEqDiff])
      | (refine AWP.ret ?_; try dsimp only [thn, inBlk])
      | (refine AWP.condT ?_ ?_; (focus (simp [go_sem, hz']; done)))
      | (refine AWP.condF ?_ ?_; (focus (simp [go_sem, hz']; done)))
      | (apply AWP.rE; (focus (simp [go_sem, hz']; exact ⟨rfl, rfl⟩)); try dsimp only [thn, inBlk])
      | fail)
    simp [bodyQ, thn, inBlk, resA, resV, go_sem]
    exact k1
  subst hz
  refine awpL_restE (by simp [go_sem]; exact ⟨rfl, rfl⟩) ?_; try dsimp only [thn, inBlk]
  (repeat' first
    | refine AWP.seq ?_
    | refine AWP.block ?_
    | (refine AWP.skip ?_; try dsimp only [thn, inBlk])
    | (refine AWP.exit ?_; try simp only [thn, inBlk, if_true, reduceIte, Nat.reduceEqDiff])
    | (refine AWP.ret ?_; try dsimp only [thn, inBlk])
    | (refine AWP.condT ?_ ?_; (focus (simp [go_sem]; done)))
    | (refine AWP.condF ?_ ?_; (focus (simp [go_sem]; done)))
    | (apply AWP.rE; (focus (simp [go_sem]; exact ⟨rfl, rfl⟩)); try dsimp only [thn, inBlk])
    | fail)
  refine AWP.callE (by simp [go_sem]; exact ⟨rfl, rfl, rfl, rfl, rfl⟩) (by kernel_rfl) ?_
  refine (rat_calls (p := p) k1 (by omega)).mono ?_
  rintro r h5 ⟨rfl, rfl⟩
  cases hi : idxE xs p with
  | none =>
    obtain ⟨g1, g2⟩ := idx_none hi
    rw [g1, g2]
    refine awpL_restE (by simp [go_sem]; exact ⟨rfl, rfl⟩) ?_; try dsimp only [thn, inBlk]
    (repeat' first
      | refine AWP.seq ?_
      | refine AWP.block ?_
      | (refine AWP.skip ?_; try dsimp only [thn, inBlk])
      | (refine AWP.exit ?_; try simp only [thn, inBlk, if_true, reduceIte, Nat.reduceEqDiff])
      | (refine AWP.ret ?_; try dsimp only [thn, inBlk])
      | (refine AWP.condT ?_ ?_; (focus (simp [go_sem]; done)))
      | (refine AWP.condF ?_ ?_; (focus (simp [go_sem]; done)))
      | (apply AWP.rE; (focus (simp [go_sem]; exact ⟨rfl, rfl⟩)); try dsimp only [thn, inBlk])
      | fail)
    simp [bodyQ, thn, inBlk, resA, resV, go_sem]
    exact k1
  | some q =>
    obtain ⟨nd, g1, g2, g3⟩ := idx_some hi
    have hq0 : ¬ (q : Int) < 0 := by omega
    rw [g2, g3]
    refine awpL_restE (by simp [go_sem]; exact ⟨rfl, rfl⟩) ?_; try dsimp only [thn, inBlk]
    (repeat' first
      | refine AWP.seq ?_
      | refine AWP.block ?_
      | (refine AWP.skip ?_; try dsimp only [thn, inBlk])
      | (refine AWP.exit ?_; try simp only [thn, inBlk, if_true, reduceIte, Nat.reduceEqDiff])
      | (refine AWP.ret ?_; try dsimp only [thn, inBlk])
      | (refine AWP.condT ?_ ?_; (focus (simp [go_sem, hq0]; done)))
      | (refine AWP.condF ?_ ?_; (focus (simp [go_sem, hq0]; done)))
      | (apply AWP.rE; (focus (simp [go_sem, hq0]; exact ⟨rfl, rfl⟩)); try dsimp only [thn, inBlk])
      | fail)
    simp [bodyQ, thn, inBlk, resA, resV, go_sem]
    exact k1
end
end L19
