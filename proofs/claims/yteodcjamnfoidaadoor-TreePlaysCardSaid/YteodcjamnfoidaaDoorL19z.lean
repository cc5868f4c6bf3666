import Derived.Test.YteodcjamnfoidaaDoorL19y
open Go Ab Go.Proofs
namespace L19
set_option autoImplicit false
set_option linter.unusedSimpArgs false
set_option linter.unusedVariables false

/-! ### Who owns nothing -/
def eveB : List UInt8 := [101, 118, 101]
structure SI (T : TL) (c : Nat) : Prop extends TK T where
  ow : ∀ x ∈ T, x.2.own = rootB
  m0 : ∀ x ∈ T, x.1 ≠ [47] → x.2.mode % 8 = 0
  tm : ∀ x ∈ T, x.1 = [47] → x.2.dir = true ∧ x.2.mode = c
theorem SI.app {T : TL} {c : Nat} (h : SI T c) {p : List UInt8} {n : Nd} (hk : TK (T ++ [(p, n)])) (hp : p ≠ [47]) (ho : n.own = rootB) (hm : n.mode % 8 = 0) : SI (T ++ [(p, n)]) c := by
  refine ⟨hk, fun x hx => ?_, fun x hx hne => ?_, fun x hx he => ?_⟩
  · rcases List.mem_append.1 hx with hx | hx
    · exact h.ow x hx
    · rw [List.mem_singleton.1 hx]; exact ho
  · rcases List.mem_append.1 hx with hx | hx
    · exact h.m0 x hx hne
    · rw [List.mem_singleton.1 hx]; exact hm
  · rcases List.mem_append.1 hx with hx | hx
    · exact h.tm x hx he
    · rw [List.mem_singleton.1 hx] at he; exact absurd he hp
theorem SI.setD {T : TL} {c : Nat} (h : SI T c) {p d : List UInt8} {n : Nd} (hg : get T p = some n) (hk : TK (setN T p { n with data := d })) : SI (setN T p { n with data := d }) c := by
  obtain ⟨j, hj, hf⟩ := findIdx_get hg
  have hm := List.mem_of_getElem? hj
  have e : setN T p { n with data := d } = T.set j (p, { n with data := d }) := by simp only [setN, hf]
  rw [e] at hk ⊢
  refine ⟨hk, fun x hx => ?_, fun x hx hne => ?_, fun x hx he => ?_⟩
  · rcases List.mem_or_eq_of_mem_set hx with hx | hx
    · exact h.ow x hx
    · rw [hx]; exact h.ow (p, n) hm
  · rcases List.mem_or_eq_of_mem_set hx with hx | hx
    · exact h.m0 x hx hne
    · rw [hx] at hne ⊢; exact h.m0 (p, n) hm hne
  · rcases List.mem_or_eq_of_mem_set hx with hx | hx
    · exact h.tm x hx he
    · rw [hx] at he ⊢; exact h.tm (p, n) hm he
theorem SI.notTop {T : TL} {c : Nat} (h : SI T c) {p : List UInt8} (hg : get T p = none) : p ≠ [47] := by
  rintro rfl
  obtain ⟨nd, e⟩ := h.tp
  rw [hg] at e; cases e
theorem SI.putT {T : TL} {c : Nat} (h : SI T c) {p : List UInt8} {n : Nd} (hg : get T p = none) (hk : TK (L19.putT T p n)) (ho : n.own = rootB) (hm : n.mode % 8 = 0) : SI (L19.putT T p n) c := by
  unfold L19.putT at hk ⊢
  split at hk
  · rw [if_pos (by assumption)]; exact h.app hk (h.notTop hg) ho hm
  · rw [if_neg (by assumption)]; exact h
theorem SI.mkd {T : TL} {c M : Nat} (h : SI T c) {p : List UInt8} (hp : p.length ≤ 1000000) (hM : M % 8 = 0) : SI (mkR T rootB p (M : Int)).2 c := by
  have hk := h.toTK.mkd (who := rootB) (p := p) (z := (M : Int)) hp (by decide)
  unfold mkR at hk ⊢
  split
  · rename_i h1
    rw [if_pos h1] at hk
    split
    · exact h
    · rename_i h2
      rw [if_neg h2] at hk
      cases hg : get T p with
      | some n => exact h
      | none => rw [hg] at hk; exact h.putT hg hk rfl (by simpa using hM)
  · exact h
theorem SI.wr {T : TL} {c M : Nat} (h : SI T c) {p d : List UInt8} (hp : p.length ≤ 1000000) (hM : M % 8 = 0) : SI (wrR T rootB p d (M : Int)).2 c := by
  have hk := h.toTK.wr (who := rootB) (p := p) (d := d) (z := (M : Int)) hp (by decide)
  unfold wrR at hk ⊢
  split
  · rename_i h1
    rw [if_pos h1] at hk
    split
    · exact h
    · rename_i h2
      rw [if_neg h2] at hk
      split
      · exact h
      rename_i h3
      rw [if_neg h3] at hk
      cases hg : get T p with
      | none => rw [hg] at hk; exact h.putT hg hk rfl (by simpa using hM)
      | some n =>
        rw [hg] at hk
        dsimp only at hk ⊢
        split
        · exact h
        rename_i h4
        rw [if_neg h4] at hk
        split
        · exact h
        · rename_i h5
          rw [if_neg h5] at hk
          exact h.setD hg hk
  · exact h
theorem SI.top : SI [L19.top] 61 := ⟨TK.top, by simp [L19.top], by simp [L19.top], by simp [L19.top]⟩
/-- The top's mode is set. -/
theorem SI.chm {T : TL} (h : SI T 61) : (chR T rootB [47] 57).1 = 0 ∧ SI (chR T rootB [47] 57).2 57 := by
  have hk := h.toTK.ch (who := rootB) (p := [47]) (z := 57)
  obtain ⟨nd, hg⟩ := h.tp
  obtain ⟨j, hj, hf⟩ := findIdx_get hg
  have hm := List.mem_of_getElem? hj
  have e : chR T rootB [47] 57 = (0, T.set j ([47], { nd with mode := 57 })) := by
    have hc : comeE T rootB [47] = 0 := rfl
    unfold chR
    rw [if_pos hc, if_neg (by decide), hg]
    dsimp only
    rw [if_neg (fun e => e.1 rfl)]
    simp only [setN, hf]; rfl
  rw [e] at hk ⊢
  refine ⟨rfl, hk, fun x hx => ?_, fun x hx hne => ?_, fun x hx he => ?_⟩
  · rcases List.mem_or_eq_of_mem_set hx with hx | hx
    · exact h.ow x hx
    · rw [hx]; exact h.ow ([47], nd) hm
  · rcases List.mem_or_eq_of_mem_set hx with hx | hx
    · exact h.m0 x hx hne
    · rw [hx] at hne; exact absurd rfl hne
  · rw [List.mem_iff_getElem?] at hx
    obtain ⟨q, hq⟩ := hx
    rw [List.getElem?_set] at hq
    split at hq
    · split at hq
      · obtain rfl := Option.some.inj hq
        exact ⟨(h.tm ([47], nd) hm rfl).1, rfl⟩
      · cases hq
    · rename_i hne
      have hx := List.mem_of_getElem? hq
      have : x = ([47], nd) := inj_of_nodup (f := fun y : List UInt8 × Nd => y.1) h.nd hx hm he
      have h1 := List.getElem?_eq_some_iff.1 hj
      have h2 := List.getElem?_eq_some_iff.1 hq
      have := (List.getElem?_inj (l := T.map (·.1)) (by rw [List.length_map]; exact h1.1) h.nd).1 (show (T.map (·.1))[j]? = (T.map (·.1))[q]? by rw [List.getElem?_map, List.getElem?_map, hj, hq, this])
      exact absurd this hne

theorem and_zero {m b : Nat} (hm : m % 8 = 0) (hb : b < 8) : m &&& b = 0 := by
  have h1 : (m &&& b) % 2 ^ 3 = (m % 2 ^ 3) &&& (b % 2 ^ 3) := Nat.and_mod_two_pow
  have h2 : (m &&& b) ≤ b := Nat.and_le_right
  rw [show (2 : Nat) ^ 3 = 8 from rfl, hm, Nat.zero_and, Nat.mod_eq_of_lt (by omega)] at h1
  exact h1
theorem SI.eve {T : TL} (h : SI T 57) {x : List UInt8 × Nd} (hx : x ∈ T) {b : Nat} (hb : b = 2 ∨ b = 4) : may eveB x.2 b = false := by
  have ho := h.ow x hx
  have e : (x.2.mode &&& b) = 0 := by
    by_cases hp : x.1 = [47]
    · rw [(h.tm x hx hp).2]
      rcases hb with rfl | rfl <;> decide
    · exact and_zero (h.m0 x hx hp) (by omega)
  unfold may
  rw [if_neg (by rw [ho]; decide), e]; decide
theorem SI.eveg {T : TL} (h : SI T 57) {p : List UInt8} {n : Nd} (hg : get T p = some n) {b : Nat} (hb : b = 2 ∨ b = 4) : may eveB n b = false := by
  obtain ⟨j, hj⟩ := get_some hg
  exact h.eve (List.mem_of_getElem? hj) hb
theorem SI.put {T : TL} (h : SI T 57) {p : List UInt8} {n : Nd} (ho : n.own = eveB) : L19.putT T p n = T := by
  have : putE T p n = 114 := by
    unfold putE
    split
    · rename_i nd hg
      rw [ho, if_pos (h.eveg hg (.inl rfl))]
    · rfl
  unfold L19.putT
  rw [this]; rfl
theorem eve_mk {T : TL} (h : SI T 57) {p : List UInt8} {z : Int} : (mkR T eveB p z).2 = T := by
  unfold mkR
  split
  · split
    · rfl
    · cases get T p with
      | some n => rfl
      | none => exact h.put rfl
  · rfl
theorem eve_wr {T : TL} (h : SI T 57) {p d : List UInt8} {z : Int} : (wrR T eveB p d z).2 = T := by
  unfold wrR
  split
  · split
    · rfl
    · split
      · rfl
      · cases hg : get T p with
        | none => exact h.put rfl
        | some n =>
          dsimp only
          split
          · rfl
          · rw [if_pos (h.eveg hg (.inl rfl))]
  · rfl
theorem eve_rm {T : TL} (h : SI T 57) {p : List UInt8} : (rmR T eveB p).2 = T := by
  unfold rmR
  split
  · split
    · rfl
    · cases hg : get T p with
      | none => rfl
      | some n =>
        dsimp only
        cases hg2 : get T (par p) with
        | none => rfl
        | some nd => dsimp only; rw [if_pos (h.eveg hg2 (.inl rfl))]
  · rfl
theorem eve_ch {T : TL} (h : SI T 57) {p : List UInt8} {z : Int} : (chR T eveB p z).2 = T := by
  unfold chR
  split
  · split
    · rfl
    · cases hg : get T p with
      | none => rfl
      | some n =>
        dsimp only
        obtain ⟨j, hj⟩ := get_some hg
        have := h.ow _ (List.mem_of_getElem? hj)
        dsimp only at this
        rw [if_pos ⟨by decide, by rw [this]; decide⟩]
  · rfl
theorem eve_gv {T : TL} {p o : List UInt8} : (gvR T eveB p o).2 = T := by
  unfold gvR
  split
  · rw [if_pos (by decide)]
  · rfl
theorem eve_rd {T : TL} (h : SI T 57) {p : List UInt8} : (rdR T eveB p).1 ≠ 0 ∧ (rdR T eveB p).2 = [] := by
  unfold rdR
  split
  · rename_i hf
    cases hg : get T p with
    | none =>
      exfalso
      unfold findE at hf
      split at hf
      · rw [hg] at hf; cases hf
      · rename_i hc; exact hc hf
    | some n =>
      dsimp only
      split
      · exact ⟨by decide, rfl⟩
      · rw [if_pos (h.eveg hg (.inr rfl))]; exact ⟨by decide, rfl⟩
  · rename_i hf; exact ⟨hf, rfl⟩
end L19
