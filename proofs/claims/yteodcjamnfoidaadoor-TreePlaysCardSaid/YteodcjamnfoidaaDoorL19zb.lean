import Derived.Test.YteodcjamnfoidaaDoorL19za
open Go Ab Go.Proofs
namespace L19
set_option autoImplicit false
set_option linter.unusedSimpArgs false
set_option linter.unusedVariables false

/-! ### What a sound tree is -/
structure TS (T : TL) : Prop extends TK T where
  pa : ∀ x ∈ T, pathB x.1 = true
  pr : ∀ x ∈ T, x.1 ≠ [47] → ∃ nd, (par x.1, nd) ∈ T ∧ nd.dir = true
  dd : ∀ x ∈ T, x.2.dir = true → x.2.data = []
  ps : ∀ x ∈ T, x.1.length ≤ 300
theorem TS.top : TS [L19.top] := ⟨TK.top, by intro x hx; rw [List.mem_singleton.1 hx]; decide, by simp [L19.top], by simp [L19.top], by simp [L19.top]⟩
theorem mem_of_get {T : TL} {p : List UInt8} {n : Nd} (h : get T p = some n) : (p, n) ∈ T := by
  obtain ⟨j, hj⟩ := get_some h
  exact List.mem_of_getElem? hj
theorem come_path {T : TL} {who p : List UInt8} (h : comeE T who p = 0) : pathB p = true := by
  unfold comeE at h
  split at h
  · assumption
  · cases h
theorem TS.putT {T : TL} (h : TS T) {who p : List UInt8} {n : Nd} (hc : comeE T who p = 0) (hg : get T p = none) (hp : p.length ≤ 300) (hn : NdOk n) (hd : n.dir = true → n.data = []) : TS (L19.putT T p n) := by
  have hk := h.toTK.putT hg (p := p) (by omega) hn
  have hp47 : p ≠ [47] := by
    rintro rfl
    obtain ⟨nd, e⟩ := h.tp
    rw [hg] at e; cases e
  unfold L19.putT at hk ⊢
  split
  · rename_i e
    rw [if_pos e] at hk
    refine ⟨hk, fun x hx => ?_, fun x hx hne => ?_, fun x hx => ?_, fun x hx => ?_⟩
    · rcases List.mem_append.1 hx with hx | hx
      · exact h.pa x hx
      · rw [List.mem_singleton.1 hx]; exact come_path hc
    · rcases List.mem_append.1 hx with hx | hx
      · obtain ⟨nd, a, b⟩ := h.pr x hx hne
        exact ⟨nd, List.mem_append_left _ a, b⟩
      · rw [List.mem_singleton.1 hx]
        obtain ⟨nd, a, b, _⟩ := come_parent hc hp47
        exact ⟨nd, List.mem_append_left _ (mem_of_get a), b⟩
    · rcases List.mem_append.1 hx with hx | hx
      · exact h.dd x hx
      · rw [List.mem_singleton.1 hx]; exact hd
    · rcases List.mem_append.1 hx with hx | hx
      · exact h.ps x hx
      · rw [List.mem_singleton.1 hx]; exact hp
  · exact h
theorem TS.mkd {T : TL} (h : TS T) {who p : List UInt8} {z : Int} (hp : p.length ≤ 300) (hw : who.length ≤ 1000000) : TS (mkR T who p z).2 := by
  unfold mkR
  split
  · rename_i hc
    split
    · exact h
    · rename_i hr
      split
      · exact h
      · rename_i hg
        exact h.putT hc hg hp ⟨hw, by simp [rightB] at hr; dsimp only; omega, by simp⟩ fun _ => rfl
  · exact h
theorem TS.setD {T : TL} (h : TS T) {p d : List UInt8} {n : Nd} (hg : get T p = some n) (hf : n.dir = false) (hk : TK (setN T p { n with data := d })) : TS (setN T p { n with data := d }) := by
  obtain ⟨j, hj, hjf⟩ := findIdx_get hg
  have hm := List.mem_of_getElem? hj
  have e : setN T p { n with data := d } = T.set j (p, { n with data := d }) := by simp only [setN, hjf]
  rw [e] at hk ⊢
  refine ⟨hk, fun x hx => ?_, fun x hx hne => ?_, fun x hx => ?_, fun x hx => ?_⟩
  · rcases List.mem_or_eq_of_mem_set hx with hx | hx
    · exact h.pa x hx
    · rw [hx]; exact h.pa (p, n) hm
  · have : ∃ nd, (par x.1, nd) ∈ T ∧ nd.dir = true := by
      rcases List.mem_or_eq_of_mem_set hx with hx | hx
      · exact h.pr x hx hne
      · rw [hx] at hne ⊢; exact h.pr (p, n) hm hne
    obtain ⟨nd, a, b⟩ := this
    obtain ⟨k, hk'⟩ := List.mem_iff_getElem?.1 a
    have hjk : j ≠ k := by
      rintro rfl
      rw [hj] at hk'
      have e2 := Option.some.inj hk'
      rw [Prod.mk.injEq] at e2
      rw [← e2.2, hf] at b; cases b
    exact ⟨nd, List.mem_of_getElem? (i := k) (by rw [List.getElem?_set_ne hjk]; exact hk'), b⟩
  · rcases List.mem_or_eq_of_mem_set hx with hx | hx
    · exact h.dd x hx
    · rw [hx]; intro hd; dsimp only at hd; rw [hf] at hd; cases hd
  · rcases List.mem_or_eq_of_mem_set hx with hx | hx
    · exact h.ps x hx
    · rw [hx]; exact h.ps (p, n) hm
theorem TS.wr {T : TL} (h : TS T) {who p d : List UInt8} {z : Int} (hp : p.length ≤ 300) (hw : who.length ≤ 1000000) : TS (wrR T who p d z).2 := by
  have hk := h.toTK.wr (who := who) (p := p) (d := d) (z := z) (by omega) hw
  unfold wrR at hk ⊢
  split
  · rename_i hc
    rw [if_pos hc] at hk
    split
    · exact h
    · rename_i hr
      rw [if_neg hr] at hk
      split
      · exact h
      rename_i hl
      rw [if_neg hl] at hk
      cases hg : get T p with
      | none =>
        rw [hg] at hk
        exact h.putT hc hg hp ⟨hw, by simp [rightB] at hr; dsimp only; omega, by dsimp only; omega⟩ (by intro h; cases h)
      | some nd =>
        rw [hg] at hk
        dsimp only at hk ⊢
        split
        · exact h
        rename_i h4
        rw [if_neg h4] at hk
        split
        · exact h
        · rename_i h5
          rw [if_neg h5] at hk
          exact h.setD hg (by simpa using h4) hk
  · exact h
theorem TS.erase {T : TL} (h : TS T) {p : List UInt8} {n : Nd} {j : Nat} (hj : T[j]? = some (p, n)) (hp : p ≠ [47]) (hk : kids T p = []) : TS (T.eraseIdx j) := by
  have sub : ∀ x, x ∈ T.eraseIdx j → x ∈ T := fun x hx => (List.eraseIdx_sublist T j).subset hx
  have keep : ∀ (q : List UInt8) (nd : Nd), q ≠ p → (q, nd) ∈ T → (q, nd) ∈ T.eraseIdx j := fun q nd hq hm => by
    obtain ⟨k, hk⟩ := List.mem_iff_getElem?.1 hm
    rw [List.mem_eraseIdx_iff_getElem?]
    refine ⟨k, ?_, hk⟩
    rintro rfl
    rw [hj] at hk
    have := Option.some.inj hk
    rw [Prod.mk.injEq] at this
    exact hq this.1.symm
  have hnd : ((T.eraseIdx j).map (·.1)).Nodup := ((List.eraseIdx_sublist T j).map _).nodup h.nd
  refine ⟨⟨⟨hnd, fun x hx => h.pl x (sub x hx), fun x hx => h.ol x (sub x hx), fun x hx => h.md x (sub x hx), fun x hx => h.dl x (sub x hx)⟩, ?_, ?_⟩, fun x hx => h.pa x (sub x hx), fun x hx hne => ?_, fun x hx => h.dd x (sub x hx), fun x hx => h.ps x (sub x hx)⟩
  · obtain ⟨nd, e⟩ := h.tp
    exact ⟨nd, get_of_mem hnd (keep _ _ (fun e => hp e.symm) (mem_of_get e))⟩
  · have := (List.eraseIdx_sublist T j).length_le
    have := h.mx; omega
  · obtain ⟨nd, a, b⟩ := h.pr x (sub x hx) hne
    refine ⟨nd, keep _ _ (fun e => ?_) a, b⟩
    have : base x.1 ∈ kids T p := List.mem_map_of_mem (List.mem_filter.2 ⟨List.mem_map_of_mem (sub x hx), by simp [kidP, hne, e]⟩)
    rw [hk] at this; cases this
theorem TS.rm {T : TL} (h : TS T) {who p : List UInt8} : TS (rmR T who p).2 := by
  unfold rmR
  split
  · split
    · exact h
    rename_i hp
    cases hg : get T p with
    | none => exact h
    | some n =>
      dsimp only
      cases hg2 : get T (par p) with
      | none => exact h
      | some nd =>
        dsimp only
        split
        · exact h
        split
        · rename_i hk
          obtain ⟨j, hj, hjf⟩ := findIdx_get hg
          simp only [rmT, hjf]
          exact h.erase hj hp hk
        · exact h
  · exact h

/-! ### Paths in order -/
theorem lt_app (c : UInt8) (r : List UInt8) : ∀ l : List UInt8, l < l ++ c :: r
  | [] => List.nil_lt_cons _ _
  | x :: l => by
    rw [List.cons_append, List.cons_lt_cons_iff]
    exact .inr ⟨rfl, lt_app c r l⟩
theorem par_lt {p : List UInt8} (h0 : p[0]? = some 47) (hp : p ≠ [47]) : par p < p := by
  have hL := lastN_le p 47 p.length
  unfold par
  split
  · have e : p = p.take (lastN p 47 p.length - 1) ++ p.drop (lastN p 47 p.length - 1) := (List.take_append_drop _ _).symm
    cases hd : p.drop (lastN p 47 p.length - 1) with
    | nil => rw [List.drop_eq_nil_iff] at hd; omega
    | cons c r =>
      rw [hd] at e
      conv => rhs; rw [e]
      exact lt_app c r _
  · rcases p with _ | ⟨c, _ | ⟨d, r⟩⟩
    · simp at h0
    · simp at h0; subst h0; exact absurd rfl hp
    · simp at h0; subst h0; exact lt_app d r [47]
theorem pairwise_get {α : Type} {R : α → α → Prop} {l : List α} (h : l.Pairwise R) {i j : Nat} {a b : α} (hi : l[i]? = some a) (hj : l[j]? = some b) (hij : i < j) : R a b := by
  obtain ⟨h1, e1⟩ := List.getElem?_eq_some_iff.1 hi
  obtain ⟨h2, e2⟩ := List.getElem?_eq_some_iff.1 hj
  rw [← e1, ← e2]
  exact List.pairwise_iff_getElem.1 h i j h1 h2 hij
structure NL (T : TL) (N : TL) : Prop where
  len : N.length = T.length
  mem : ∀ x ∈ N, x ∈ T
  inn : ∀ x ∈ T, x ∈ N
  srt : N.Pairwise fun a b => a.1 < b.1
theorem srt_lt {l : List (List UInt8)} (h : l.Nodup) : (srt l).Pairwise fun a b => a < b := by
  have tr : ∀ a b c : List UInt8, leB a b = true → leB b c = true → leB a c = true := fun a b c h1 h2 => by simp only [leB, decide_eq_true_eq] at *; exact List.le_trans h1 h2
  have to : ∀ a b : List UInt8, (leB a b || leB b a) = true := fun a b => by simp only [leB, Bool.or_eq_true, decide_eq_true_eq]; exact List.le_total a b
  have h1 := List.pairwise_mergeSort tr to l
  have h2 : (l.mergeSort leB).Nodup := (List.mergeSort_perm l leB).nodup_iff.2 h
  have h3 := h1.and h2
  refine h3.imp fun {a b} ⟨q1, q2⟩ => ?_
  simp only [leB, decide_eq_true_eq] at q1
  by_cases e : a < b
  · exact e
  · exact absurd (List.le_antisymm q1 (List.not_lt.1 e)) q2
theorem nodes_NL {T : TL} (h : TI T) : NL T (nodesL T) := by
  have hp : (srt (T.map (·.1))).Perm (T.map (·.1)) := List.mergeSort_perm _ _
  have key : ∀ x ∈ T, look1 T x.1 = x := fun x hx => by rw [look1, get_of_mem h.nd hx]; rfl
  refine ⟨?_, fun x hx => ?_, fun x hx => ?_, ?_⟩
  · rw [nodesL, List.length_map, hp.length_eq, List.length_map]
  · obtain ⟨p, hp1, rfl⟩ := List.mem_map.1 hx
    obtain ⟨y, hy, rfl⟩ := List.mem_map.1 (hp.mem_iff.1 hp1)
    rw [key y hy]; exact hy
  · rw [← key x hx]
    exact List.mem_map_of_mem (hp.mem_iff.2 (List.mem_map_of_mem hx))
  · rw [nodesL, List.pairwise_map]
    exact (srt_lt h.nd).imp fun {a b} q => q
theorem NL.par_at {T N : TL} (h : NL T N) (hT : TS T) {j : Nat} {x : List UInt8 × Nd} (hj : N[j]? = some x) (hx : x.1 ≠ [47]) : ∃ j' nd, j' < j ∧ N[j']? = some (par x.1, nd) ∧ nd.dir = true := by
  have hm := h.mem x (List.mem_of_getElem? hj)
  obtain ⟨nd, a, b⟩ := hT.pr x hm hx
  obtain ⟨k, hk⟩ := List.mem_iff_getElem?.1 (h.inn _ a)
  have hlt := par_lt (pathB_head (hT.pa x hm)) hx
  refine ⟨k, nd, ?_, hk, b⟩
  by_cases e : k < j
  · exact e
  exfalso
  by_cases e2 : k = j
  · subst e2
    rw [hj] at hk
    have e3 := congrArg Prod.fst (Option.some.inj hk)
    dsimp only at e3
    rw [← e3] at hlt
    exact List.lt_irrefl _ hlt
  · have := pairwise_get h.srt hj hk (by omega)
    dsimp only at this
    exact List.lt_irrefl _ (List.lt_trans hlt this)
theorem NL.first {T N : TL} (h : NL T N) (hT : TS T) : ∃ nd, N[0]? = some ([47], nd) := by
  obtain ⟨nd, e⟩ := hT.tp
  obtain ⟨k, hk⟩ := List.mem_iff_getElem?.1 (h.inn _ (mem_of_get e))
  match k, hk with
  | 0, hk => exact ⟨nd, hk⟩
  | k + 1, hk =>
    exfalso
    have h0 : 0 < N.length := by have := (List.getElem?_eq_some_iff.1 hk).1; omega
    have hg : N[0]? = some N[0] := List.getElem?_eq_getElem h0
    have h1 := pairwise_get h.srt hg hk (by omega)
    dsimp only at h1
    have h2 := pathB_head (hT.pa _ (h.mem _ (List.mem_of_getElem? hg)))
    generalize N[0] = y at h1 h2
    obtain ⟨p, nd⟩ := y
    dsimp only at h1 h2
    rcases p with _ | ⟨c, _ | ⟨d, r⟩⟩
    · simp at h2
    · simp at h2; subst h2; exact List.lt_irrefl _ h1
    · simp at h2; subst h2
      exact List.lt_irrefl _ (List.lt_trans h1 (lt_app d r [47]))
theorem bytesLess_lt : ∀ (x y : List UInt8), Op.bytesLess x y = decide (x < y)
  | [], [] => by simp [Op.bytesLess]
  | _ :: _, [] => by simp [Op.bytesLess]
  | [], _ :: _ => by simp [Op.bytesLess]
  | a :: x, b :: y => by
    rw [Op.bytesLess, bytesLess_lt x y]
    simp only [List.cons_lt_cons_iff]
    by_cases h1 : a < b <;> by_cases h2 : a = b <;> by_cases h3 : x < y <;> simp [h1, h2, h3]
theorem strA_geq {a b : List UInt8} : strA .geq ⟨a.toArray⟩ ⟨b.toArray⟩ = some (.bool !decide (a < b)) := by
  simp only [strA, ByteArray.toList_mk, bytesLess_lt]
end L19
