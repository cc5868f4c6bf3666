import Derived.Test.YteodcjamnfoidaaDoorL19h
open Go Ab Go.Proofs
namespace L19
set_option autoImplicit false
set_option linter.unusedSimpArgs false
set_option linter.unusedVariables false

/-! ### Where one comes, the parent is there -/
theorem comeF_zero {T : TL} {who p : List UInt8} (hp : p ≠ [47]) : ∀ (n i : Nat), comeF T who p n i = 0 → ∀ j, i ≤ j → j < i + n → p[j]? = some 47 → ∃ nd, get T (p.take (max j 1)) = some nd ∧ nd.dir = true ∧ may who nd 1 = true
  | 0, i, _, j, h1, h2, _ => by omega
  | n + 1, i, h, j, h1, h2, hj => by
    rw [comeF] at h
    by_cases hc : p[i]? = some 47 ∧ p ≠ [47]
    · rw [if_pos hc] at h
      split at h
      · cases h
      · rename_i nd hg
        split at h
        · cases h
        split at h
        · cases h
        · rename_i hd hm
          by_cases e : i = j
          · subst e; exact ⟨nd, hg, by simpa using hd, by simpa using hm⟩
          · exact comeF_zero hp n (i + 1) h j (by omega) (by omega) hj
    · rw [if_neg hc] at h
      by_cases e : i = j
      · subst e; exact absurd ⟨hj, hp⟩ hc
      · exact comeF_zero hp n (i + 1) h j (by omega) (by omega) hj
theorem lastN_spec (l : List UInt8) (c : UInt8) : ∀ n, (lastN l c n = 0 ∧ ∀ j, j < n → l[j]? ≠ some c) ∨ (0 < lastN l c n ∧ lastN l c n ≤ n ∧ l[lastN l c n - 1]? = some c)
  | 0 => .inl ⟨rfl, fun j h => by omega⟩
  | n + 1 => by
    rw [lastN]
    split
    · rename_i h; exact .inr ⟨by omega, Nat.le_refl _, h⟩
    · rename_i h
      rcases lastN_spec l c n with ⟨h1, h2⟩ | ⟨h1, h2, h3⟩
      · refine .inl ⟨h1, fun j hj => ?_⟩
        by_cases e : j = n
        · subst e; exact h
        · exact h2 j (by omega)
      · exact .inr ⟨h1, by omega, h3⟩
theorem pathB_head {p : List UInt8} (h : pathB p = true) : p[0]? = some 47 := by
  unfold pathB at h
  rcases p with _ | ⟨c, p⟩
  · simp [cut47] at h
  · by_cases hc : c = 47
    · rw [hc]; rfl
    · simp [cut47, hc] at h
theorem come_parent {T : TL} {who p : List UInt8} (h : comeE T who p = 0) (hp : p ≠ [47]) : ∃ nd, get T (par p) = some nd ∧ nd.dir = true ∧ may who nd 1 = true := by
  unfold comeE at h
  split at h
  rotate_left
  · cases h
  rename_i hpb
  have h0 := pathB_head hpb
  rcases lastN_spec p 47 p.length with ⟨h1, h2⟩ | ⟨h1, h2, h3⟩
  · exact absurd h0 (h2 0 (by rcases p with _ | ⟨c, p⟩; simp at h0; simp))
  · obtain ⟨nd, q1, q2, q3⟩ := comeF_zero hp p.length 0 h _ (Nat.zero_le _) (by omega) h3
    refine ⟨nd, ?_, q2, q3⟩
    rw [← q1]
    congr 1
    unfold par
    split
    · rw [show max (lastN p 47 p.length - 1) 1 = lastN p 47 p.length - 1 by omega]
    · rw [show max (lastN p 47 p.length - 1) 1 = 1 by omega]
      rcases p with _ | ⟨c, p⟩
      · simp at h0
      · simp at h0; subst h0; rfl

/-- What is true of every tree. -/
structure TK (T : TL) : Prop extends TI T where
  tp : ∃ nd, get T [47] = some nd
  mx : T.length ≤ 64
theorem TK.parent {T : TL} (h : TK T) {who p : List UInt8} (hc : comeE T who p = 0) : ∃ nd, get T (par p) = some nd := by
  by_cases hp : p = [47]
  · subst hp; exact h.tp
  · obtain ⟨nd, q, _⟩ := come_parent hc hp
    exact ⟨nd, q⟩

/-! ### Mkdir -/
def mkR (T : TL) (who p : List UInt8) (z : Int) : Int × TL :=
  if comeE T who p = 0 then
    if rightB z = false then (1, T) else match get T p with
      | some _ => (111, T)
      | none => (putE T p ⟨true, who, z.toNat, []⟩, putT T p ⟨true, who, z.toNat, []⟩)
  else (comeE T who p, T)
section
variable {O : Old} {h : AHeap} {R : List Chunk} {i m : Nat} {T : TL} {ws : List Wd}
set_option maxHeartbeats 8000000 in
theorem mkdir_calls {who p : List UInt8} {z : Int} (hI : TK T) (k : Own O h (tr i T :: R)) (hp : p.length ≤ 900000) :
    ACalls Tryd.prog 11 #[ptr i, tx who, tx p, .int .i64 z] h fun r h' => r = .int .i64 (mkR T who p z).1 ∧ Own O h' (tr i (mkR T who p z).2 :: R) := by
  obtain ⟨m, ws, hw, k0⟩ := tr_iff.1 k
  refine ACalls.of_awp (args := [ptr i, tx who, tx p, .int .i64 z]) (n := 35) Tryd.func11 rfl rfl (by show 4 ≤ 35; omega) ?_
  (repeat' first
    | refine AWP.seq ?_
    | refine AWP.block ?_
    | (refine AWP.skip ?_; try dsimp only [thn, inBlk])
    | (refine AWP.exit ?_; try simp only [thn, inBlk, if_true, reduceIte, Nat.reduceEqDiff])
    | (refine AWP.ret ?_; try dsimp only [thn, inBlk])
    | (refine AWP.condT ?_ ?_; (focus (simp [go_sem]; done)))
    | (refine AWP.condF ?_ ?_; (focus (simp [go_sem]; done)))
    | (apply AWP.rE; (focus (simp [go_sem]; exact ⟨rfl, rfl⟩)); try dsimp only [thn, inBlk])
    | fail)
  refine AWP.callE (by simp [go_sem]; exact ⟨rfl, rfl, rfl, rfl, rfl⟩) (by kernel_rfl) ?_
  refine (come_calls (who := who) hI.toTI hw k0 hp).mono ?_
  rintro r h1 ⟨rfl, k1⟩
  have kT := tr_iff.2 ⟨m, ws, hw, k1⟩
  by_cases hc : comeE T who p = 0
  rotate_left
  · have hc' : (comeE T who p != 0) = true := by simpa using hc
    have e : mkR T who p z = (comeE T who p, T) := by simp [mkR, hc]
    rw [if_neg hc, e]
    refine awpL_restE (by simp [go_sem]; exact ⟨rfl, rfl⟩) ?_; try dsimp only [thn, inBlk]
    (repeat' first
      | refine AWP.seq ?_
      | refine AWP.block ?_
      | (refine AWP.skip ?_; try dsimp only [thn, inBlk])
      | (refine AWP.exit ?_; try simp only [thn, inBlk, if_true, reduceIte, Nat.reduceEqDiff])
      | (refine AWP.ret ?_; try dsimp only [thn, inBlk])
      | (refine AWP.condT ?_ ?_; (focus (simp [go_sem, hc']; done)))
      | (refine AWP.condF ?_ ?_; (focus (simp [go_sem, hc']; done)))
      | (apply AWP.rE; (focus (simp [go_sem, hc']; exact ⟨rfl, rfl⟩)); try dsimp only [thn, inBlk])
      | fail)
    simp [bodyQ, thn, inBlk, resA, resV, go_sem]
    exact kT
  rw [if_pos hc, hc]
  refine awpL_restE (by simp [go_sem]; exact ⟨rfl, rfl⟩) ?_; try dsimp only [thn, inBlk]
  (repeat' first
    | refine AWP.seq ?_
    | refine AWP.block ?_
    | (refine AWP.skip ?_; try dsimp only [thn, inBlk])
    | (refine AWP.exit ?_; try simp only [thn, inBlk, if_true, reduceIte, Nat.reduceEqDiff])
    | (refine AWP.ret ?_; try dsimp only [thn, inBlk])
    | (refine AWP.condT ?_ ?_; (focus (simp [go_sem]; done)))
    | (refine AWP.condF ?_ ?_; (focus (simp [go_sem]; done)))
    | (apply AWP.rE; (focus (simp [go_sem]; exact ⟨rfl, rfl⟩)); try dsimp only [thn, inBlk])
    | fail)
  refine AWP.callE (by simp [go_sem]; exact ⟨rfl, rfl, rfl, rfl, rfl⟩) (by kernel_rfl) ?_
  refine (right_calls (z := z)).mono ?_
  rintro r h2 ⟨rfl, rfl⟩
  cases hr : rightB z
  · have e : mkR T who p z = (1, T) := by simp [mkR, hc, hr]
    rw [e]
    refine awpL_restE (by simp [go_sem]; exact ⟨rfl, rfl⟩) ?_; try dsimp only [thn, inBlk]
    (repeat' first
      | refine AWP.seq ?_
      | refine AWP.block ?_
      | (refine AWP.skip ?_; try dsimp only [thn, inBlk])
      | (refine AWP.exit ?_; try simp only [thn, inBlk, if_true, reduceIte, Nat.reduceEqDiff])
      | (refine AWP.ret ?_; try dsimp only [thn, inBlk])
      | (refine AWP.condT ?_ ?_; (focus (simp [go_sem]; done)))
      | (refine AWP.condF ?_ ?_; (focus (simp [go_sem]; done)))
      | (apply AWP.rE; (focus (simp [go_sem]; exact ⟨rfl, rfl⟩)); try dsimp only [thn, inBlk])
      | fail)
    simp [bodyQ, thn, inBlk, resA, resV, go_sem]
    exact kT
  cases hg : get T p with
  | some nd =>
    have e : mkR T who p z = (111, T) := by simp [mkR, hc, hr, hg]
    obtain ⟨j, w, t1, t2, t3⟩ := pv_some hw hg
    rw [e, t3]
    refine awpL_restE (by simp [go_sem]; exact ⟨rfl, rfl⟩) ?_; try dsimp only [thn, inBlk]
    (repeat' first
      | refine AWP.seq ?_
      | refine AWP.block ?_
      | (refine AWP.skip ?_; try dsimp only [thn, inBlk])
      | (refine AWP.exit ?_; try simp only [thn, inBlk, if_true, reduceIte, Nat.reduceEqDiff])
      | (refine AWP.ret ?_; try dsimp only [thn, inBlk])
      | (refine AWP.condT ?_ ?_; (focus (simp [go_sem]; done)))
      | (refine AWP.condF ?_ ?_; (focus (simp [go_sem]; done)))
      | (apply AWP.rE; (focus (simp [go_sem]; exact ⟨rfl, rfl⟩)); try dsimp only [thn, inBlk])
      | fail)
    simp [bodyQ, thn, inBlk, resA, resV, go_sem]
    exact kT
  | none =>
    have hz : z = (z.toNat : Int) := by simp [rightB] at hr; omega
    obtain ⟨M, hM⟩ : ∃ M, M = z.toNat := ⟨_, rfl⟩
    have e : mkR T who p z = (putE T p ⟨true, who, M, []⟩, putT T p ⟨true, who, M, []⟩) := by simp [mkR, hc, hr, hg, hM]
    obtain ⟨nd, hpar⟩ := hI.parent hc
    have hmx := hI.mx
    rw [e, pv_none hg]
    rw [← hM] at hz
    rw [hz]
    refine awpL_restE (by simp [go_sem]; exact ⟨rfl, rfl⟩) ?_; try dsimp only [thn, inBlk]
    (repeat' first
      | refine AWP.seq ?_
      | refine AWP.block ?_
      | (refine AWP.skip ?_; try dsimp only [thn, inBlk])
      | (refine AWP.exit ?_; try simp only [thn, inBlk, if_true, reduceIte, Nat.reduceEqDiff])
      | (refine AWP.ret ?_; try dsimp only [thn, inBlk])
      | (refine AWP.condT ?_ ?_; (focus (simp [go_sem]; done)))
      | (refine AWP.condF ?_ ?_; (focus (simp [go_sem]; done)))
      | (apply AWP.rE; (focus (simp [go_sem]; exact ⟨rfl, rfl⟩)); try dsimp only [thn, inBlk])
      | fail)
    refine AWP.callE (by simp [go_sem]; exact ⟨rfl, rfl, rfl, rfl, rfl⟩) (by kernel_rfl) ?_
    refine (put_calls (n := ⟨true, who, M, []⟩) (a := none) (cap := 0) hI.toTI hw ((k1.nil 5 1).perm List.perm_middle.symm) hp hg hpar (by omega)).mono ?_
    rintro r h3 ⟨rfl, k3⟩
    refine awpL_restE (by simp [go_sem]; exact ⟨rfl, rfl⟩) ?_; try dsimp only [thn, inBlk]
    (repeat' first
      | refine AWP.seq ?_
      | refine AWP.block ?_
      | (refine AWP.skip ?_; try dsimp only [thn, inBlk])
      | (refine AWP.exit ?_; try simp only [thn, inBlk, if_true, reduceIte, Nat.reduceEqDiff])
      | (refine AWP.ret ?_; try dsimp only [thn, inBlk])
      | (refine AWP.condT ?_ ?_; (focus (simp [go_sem]; done)))
      | (refine AWP.condF ?_ ?_; (focus (simp [go_sem]; done)))
      | (apply AWP.rE; (focus (simp [go_sem]; exact ⟨rfl, rfl⟩)); try dsimp only [thn, inBlk])
      | fail)
    simp [bodyQ, thn, inBlk, resA, resV, go_sem]
    exact k3
end
end L19
