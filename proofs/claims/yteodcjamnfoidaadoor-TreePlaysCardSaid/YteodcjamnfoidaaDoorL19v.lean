import Derived.Test.YteodcjamnfoidaaDoorL19u
open Go Ab Go.Proofs
namespace L19
set_option autoImplicit false
set_option linter.unusedSimpArgs false
set_option linter.unusedVariables false

/-! ### Paths of one name -/
structure Flat (p : List UInt8) : Prop where
  ok : pathB p = true
  ne : p ≠ [47]
  no : ∀ j : Nat, 1 ≤ j → p[j]? ≠ some 47
theorem comeF_skip {T : TL} {who p : List UInt8} : ∀ (n i : Nat), (∀ j, i ≤ j → p[j]? ≠ some 47) → comeF T who p n i = 0
  | 0, _, _ => rfl
  | n + 1, i, h => by
    rw [comeF, if_neg (fun e => h i (Nat.le_refl _) e.1)]
    exact comeF_skip n (i + 1) fun j hj => h j (by omega)
theorem Flat.head {p : List UInt8} (h : Flat p) : ∃ t, p = 47 :: t := by
  have := pathB_head h.ok
  rcases p with _ | ⟨c, t⟩
  · simp at this
  · simp at this; exact ⟨t, by rw [this]⟩
theorem Flat.come {p : List UInt8} (h : Flat p) {T : TL} {who : List UInt8} {nd : Nd} (hg : get T [47] = some nd) (hd : nd.dir = true) (hm : may who nd 1 = true) : comeE T who p = 0 := by
  obtain ⟨t, rfl⟩ := h.head
  unfold comeE
  rw [if_pos h.ok, List.length_cons, comeF, if_pos ⟨rfl, h.ne⟩]
  have : (47 :: t).take (max 0 1) = [47] := rfl
  rw [this, hg]
  dsimp only
  rw [if_neg (by rw [hd]; decide), if_neg (by rw [hm]; decide)]
  exact comeF_skip _ _ fun j hj => h.no j hj
theorem Flat.par {p : List UInt8} (h : Flat p) : L19.par p = [47] := by
  obtain ⟨t, rfl⟩ := h.head
  unfold L19.par
  rcases lastN_spec (47 :: t) 47 (47 :: t).length with ⟨h1, h2⟩ | ⟨h1, h2, h3⟩
  · rw [if_neg (by omega)]
  · have : ¬ 1 < lastN (47 :: t) 47 (47 :: t).length := fun hlt => h.no _ (by omega) h3
    rw [if_neg this]
theorem may_root (n : Nd) (b : Nat) : may rootB n b = true := by simp [may]
theorem wr_flat {T : TL} {p d : List UInt8} {z : Int} (h : Flat p) (hg : get T [47] = some top.2) (hn : get T p = none) (hz : rightB z = true) (hd : d.length ≤ 1000) :
    wrR T rootB p d z = if 64 ≤ T.length then (2, T) else (0, T ++ [(p, ⟨false, rootB, z.toNat, d⟩)]) := by
  have hc := h.come (who := rootB) hg rfl (may_root _ _)
  have he : putE T p ⟨false, rootB, z.toNat, d⟩ = if 64 ≤ T.length then 2 else 0 := by
    simp only [putE, h.par, hg, may_root]; simp
  unfold wrR
  rw [if_pos hc, if_neg (by rw [hz]; decide), if_neg (by omega), hn]
  dsimp only
  unfold putT
  rw [he]
  split <;> simp
theorem mk_flat {T : TL} {p : List UInt8} {z : Int} (h : Flat p) (hg : get T [47] = some top.2) (hn : get T p = none) (hz : rightB z = true) :
    mkR T rootB p z = if 64 ≤ T.length then (2, T) else (0, T ++ [(p, ⟨true, rootB, z.toNat, []⟩)]) := by
  have hc := h.come (who := rootB) hg rfl (may_root _ _)
  have he : putE T p ⟨true, rootB, z.toNat, []⟩ = if 64 ≤ T.length then 2 else 0 := by
    simp only [putE, h.par, hg, may_root]; simp
  unfold mkR
  rw [if_pos hc, if_neg (by rw [hz]; decide), hn]
  dsimp only
  unfold putT
  rw [he]
  split <;> simp

/-! ### Many files -/
def fp (i : Nat) : List UInt8 := [47, 102, UInt8.ofNat (97 + i / 26), UInt8.ofNat (97 + i % 26)]
def fn (i : Nat) : List UInt8 × Nd := (fp i, ⟨false, rootB, 60, []⟩)
def TF (k : Nat) : TL := top :: (List.range k).map fn
theorem fp_ok : ∀ i : Fin 70, pathB (fp i.val) = true := by decide +kernel
theorem of97 (x : Nat) (h : x < 26) : UInt8.ofNat (97 + x) ≠ 47 := by
  intro e
  have := congrArg UInt8.toNat e
  simp at this; omega
theorem fp_flat {i : Nat} (h : i < 70) : Flat (fp i) := by
  refine ⟨fp_ok ⟨i, h⟩, by simp [fp], fun j hj => ?_⟩
  have h1 := of97 (i / 26) (by omega)
  have h2 := of97 (i % 26) (by omega)
  match j, hj with
  | 1, _ => simp [fp]
  | 2, _ => simp only [fp, List.getElem?_cons_succ, List.getElem?_cons_zero]; exact fun e => h1 (Option.some.inj e)
  | 3, _ => simp only [fp, List.getElem?_cons_succ, List.getElem?_cons_zero]; exact fun e => h2 (Option.some.inj e)
  | j + 4, _ => simp [fp]
theorem fp_inj {i j : Nat} (hi : i < 70) (hj : j < 70) (h : fp i = fp j) : i = j := by
  simp only [fp, List.cons.injEq, true_and, and_true] at h
  have h1 := congrArg UInt8.toNat h.1
  have h2 := congrArg UInt8.toNat h.2
  simp at h1 h2
  omega
theorem TF_succ (k : Nat) : TF (k + 1) = TF k ++ [fn k] := by simp [TF, List.range_succ]
theorem TF_len (k : Nat) : (TF k).length = k + 1 := by simp [TF]
theorem TF_top (k : Nat) : get (TF k) [47] = some top.2 := rfl
theorem TF_none {k i : Nat} (hk : k ≤ i) (hi : i < 70) : get (TF k) (fp i) = none := by
  cases hg : get (TF k) (fp i) with
  | none => rfl
  | some n =>
    obtain ⟨j, hj⟩ := get_some hg
    have hm := List.mem_of_getElem? hj
    rcases List.mem_cons.1 hm with e | hm
    · have := congrArg Prod.fst e; simp [fp, top] at this
    · obtain ⟨x, hx, e⟩ := List.mem_map.1 hm
      have hx2 := List.mem_range.1 hx
      have := fp_inj (by omega) hi (congrArg Prod.fst e)
      omega
theorem TF_wr {k i : Nat} (hk : k = min i 63) (hi : i < 70) : wrR (TF k) rootB (fp i) [] 60 = if i < 63 then (0, TF (min (i + 1) 63)) else (2, TF (min (i + 1) 63)) := by
  rw [wr_flat (fp_flat hi) (TF_top k) (TF_none (by omega) hi) rfl (by simp), TF_len]
  by_cases h : i < 63
  · have : k = i := by omega
    subst this
    rw [if_neg (by omega), if_pos h, show min (k + 1) 63 = k + 1 by omega, TF_succ]; rfl
  · rw [if_pos (by omega), if_neg h]
    have : k = min (i + 1) 63 := by omega
    rw [← this]
theorem TF_tk (k : Nat) (hk : k ≤ 63) : TK (TF k) := by
  induction k with
  | zero => exact TK.top
  | succ k ih =>
    have := (ih (by omega)).wr (who := rootB) (p := fp k) (d := []) (z := 60) (by simp [fp]) (by decide)
    rw [TF_wr (by omega) (by omega), if_pos (by omega), show min (k + 1) 63 = k + 1 by omega] at this
    exact this
end L19
