import Derived.Test.YteodcjamnfoidaaDoorL19l
open Go Ab Go.Proofs
namespace L19
set_option autoImplicit false
set_option linter.unusedSimpArgs false
set_option linter.unusedVariables false

/-! ### What stays true of a tree -/
structure NdOk (n : Nd) : Prop where
  ol : n.own.length ≤ 1000000
  md : n.mode ≤ 63
  dl : n.data.length ≤ 1000
theorem get_app {T : TL} {p q : List UInt8} {n nd : Nd} (h : get T q = some nd) : get (T ++ [(p, n)]) q = some nd := by
  unfold get at h ⊢
  obtain ⟨x, hx, rfl⟩ := Option.map_eq_some_iff.1 h
  rw [List.find?_append, hx]; rfl
theorem TK.app {T : TL} (h : TK T) {p : List UInt8} {n : Nd} (hg : get T p = none) (hp : p.length ≤ 1000000) (hn : NdOk n) (hl : T.length < 64) : TK (T ++ [(p, n)]) := by
  refine ⟨⟨?_, ?_, ?_, ?_, ?_⟩, ?_, by simp; omega⟩
  · rw [List.map_append, List.nodup_append]
    refine ⟨h.nd, by simp, fun a ha b hb e => ?_⟩
    obtain ⟨x, hx, rfl⟩ := List.mem_map.1 ha
    simp at hb
    exact get_none hg x hx (e.trans hb)
  all_goals first
    | (intro x hx
       rcases List.mem_append.1 hx with hx | hx
       · first | exact h.pl x hx | exact h.ol x hx | exact h.md x hx | exact h.dl x hx
       · obtain rfl := List.mem_singleton.1 hx
         first | exact hp | exact hn.ol | exact hn.md | exact hn.dl)
    | (obtain ⟨nd, e⟩ := h.tp; exact ⟨nd, get_app e⟩)
theorem get_set {T : TL} {j : Nat} {p q : List UInt8} {n n' nd : Nd} (hj : T[j]? = some (p, n)) (h : get T q = some nd) : ∃ nd', get (T.set j (p, n')) q = some nd' := by
  cases hg : get (T.set j (p, n')) q with
  | some nd' => exact ⟨nd', rfl⟩
  | none =>
    obtain ⟨k, hk⟩ := get_some h
    have hn := get_none hg
    obtain ⟨hlt, _⟩ := List.getElem?_eq_some_iff.1 hj
    by_cases e : j = k
    · subst e
      rw [hj] at hk
      obtain ⟨rfl, rfl⟩ := Option.some.inj hk
      exact absurd rfl (hn (p, n') (List.mem_of_getElem? (i := j) (by rw [List.getElem?_set_self hlt])))
    · exact absurd rfl (hn (q, nd) (List.mem_of_getElem? (i := k) (by rw [List.getElem?_set_ne e]; exact hk)))
theorem TK.set {T : TL} (h : TK T) {j : Nat} {p : List UInt8} {n n' : Nd} (hj : T[j]? = some (p, n)) (hn : NdOk n') : TK (T.set j (p, n')) := by
  have hpm := List.mem_of_getElem? hj
  refine ⟨⟨?_, ?_, ?_, ?_, ?_⟩, ?_, by rw [List.length_set]; exact h.mx⟩
  · have : (T.set j (p, n')).map (·.1) = T.map (·.1) := by
      rw [List.map_set]
      apply List.ext_getElem?
      intro k
      rw [List.getElem?_set]
      split
      · rename_i e; subst e
        rw [List.getElem?_map, hj]
        rw [if_pos (by rw [List.length_map]; exact (List.getElem?_eq_some_iff.1 hj).1)]; rfl
      · rfl
    rw [this]; exact h.nd
  · intro x hx
    rcases List.mem_or_eq_of_mem_set hx with hx | hx
    · exact h.pl x hx
    · rw [hx]; exact h.pl (p, n) hpm
  · intro x hx
    rcases List.mem_or_eq_of_mem_set hx with hx | hx
    · exact h.ol x hx
    · rw [hx]; exact hn.ol
  · intro x hx
    rcases List.mem_or_eq_of_mem_set hx with hx | hx
    · exact h.md x hx
    · rw [hx]; exact hn.md
  · intro x hx
    rcases List.mem_or_eq_of_mem_set hx with hx | hx
    · exact h.dl x hx
    · rw [hx]; exact hn.dl
  · obtain ⟨nd, e⟩ := h.tp
    exact get_set hj e
theorem TK.node {T : TL} (h : TK T) {p : List UInt8} {n : Nd} (hg : get T p = some n) : NdOk n := by
  obtain ⟨j, hj⟩ := get_some hg
  have hm := List.mem_of_getElem? hj
  exact ⟨h.ol _ hm, h.md _ hm, h.dl _ hm⟩
theorem TK.setN {T : TL} (h : TK T) {p : List UInt8} {n n' : Nd} (hg : get T p = some n) (hn : NdOk n') : TK (L19.setN T p n') := by
  obtain ⟨j, hj, hf⟩ := findIdx_get hg
  unfold L19.setN
  rw [hf]
  exact h.set hj hn
theorem TK.putT {T : TL} (h : TK T) {p : List UInt8} {n : Nd} (hg : get T p = none) (hp : p.length ≤ 1000000) (hn : NdOk n) : TK (L19.putT T p n) := by
  unfold L19.putT
  split
  · rename_i e
    refine h.app hg hp hn ?_
    unfold putE at e
    split at e
    · split at e
      · cases e
      split at e
      · cases e
      · omega
    · cases e
  · exact h
theorem TK.mkd {T : TL} (h : TK T) {who p : List UInt8} {z : Int} (hp : p.length ≤ 1000000) (hw : who.length ≤ 1000000) : TK (mkR T who p z).2 := by
  unfold mkR
  split
  · split
    · exact h
    · rename_i hr
      split
      · exact h
      · rename_i hg
        exact h.putT hg hp ⟨hw, by simp [rightB] at hr; dsimp only; omega, by simp⟩
  · exact h
theorem TK.wr {T : TL} (h : TK T) {who p d : List UInt8} {z : Int} (hp : p.length ≤ 1000000) (hw : who.length ≤ 1000000) : TK (wrR T who p d z).2 := by
  unfold wrR
  split
  · split
    · exact h
    · rename_i hr
      split
      · exact h
      rename_i hl
      split
      · rename_i hg
        exact h.putT hg hp ⟨hw, by simp [rightB] at hr; dsimp only; omega, by dsimp only; omega⟩
      · rename_i nd hg
        split
        · exact h
        split
        · exact h
        · exact h.setN hg ⟨(h.node hg).ol, (h.node hg).md, by dsimp only; omega⟩
  · exact h
theorem TK.ch {T : TL} (h : TK T) {who p : List UInt8} {z : Int} : TK (chR T who p z).2 := by
  unfold chR
  split
  · split
    · exact h
    · rename_i hr
      split
      · exact h
      · rename_i nd hg
        split
        · exact h
        · exact h.setN hg ⟨(h.node hg).ol, by simp [rightB] at hr; dsimp only; omega, (h.node hg).dl⟩
  · exact h
theorem TK.gv {T : TL} (h : TK T) {who p o : List UInt8} (ho : o.length ≤ 1000000) : TK (gvR T who p o).2 := by
  unfold gvR
  split
  · split
    · exact h
    · split
      · exact h
      · rename_i nd hg
        exact h.setN hg ⟨ho, (h.node hg).md, (h.node hg).dl⟩
  · exact h
theorem TK.top : TK [L19.top] := ⟨⟨by simp, by simp [L19.top], by simp [L19.top, rootB], by simp [L19.top], by simp [L19.top]⟩, ⟨_, rfl⟩, by simp⟩
end L19
