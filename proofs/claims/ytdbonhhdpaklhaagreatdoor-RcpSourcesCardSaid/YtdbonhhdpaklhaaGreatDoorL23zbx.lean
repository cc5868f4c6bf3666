import Derived.Test.YtdbonhhdpaklhaaGreatDoorL23kx
import Derived.Test.YtdbonhhdpaklhaaGreatDoorAbLibE
section
open Go Ab Go.Proofs
namespace L23
set_option autoImplicit false
set_option linter.unusedSimpArgs false
set_option linter.unusedVariables false

/-! ### What a sound tree is -/
structure TS (T : TL) : Prop extends TK T where
  pa : ∀ x ∈ T, pathB x.1 = true
  pr : ∀ x ∈ T, x.1 ≠ [47] → ∃ nd, (par x.1, nd) ∈ T ∧ nd.dir = true
  dd : ∀ x ∈ T, x.2.dir = true → x.2.data = []
  ps : ∀ x ∈ T, x.1.length ≤ 300
theorem TS.top : TS [L23.top] := ⟨TK.top, by intro x hx; rw [List.mem_singleton.1 hx]; decide, by simp [L23.top], by simp [L23.top], by simp [L23.top]⟩
theorem mem_of_get {T : TL} {p : List UInt8} {n : Nd} (h : get T p = some n) : (p, n) ∈ T := by
  obtain ⟨j, hj⟩ := get_some h
  exact List.mem_of_getElem? hj
theorem come_path {T : TL} {who p : List UInt8} (h : comeE T who p = 0) : pathB p = true := by
  unfold comeE at h
  split at h
  · assumption
  · cases h
theorem TS.putT {T : TL} (h : TS T) {who p : List UInt8} {n : Nd} (hc : comeE T who p = 0) (hg : get T p = none) (hp : p.length ≤ 300) (hn : NdOk n) (hd : n.dir = true → n.data = []) : TS (L23.putT T p n) := by
  have hk := h.toTK.putT hg (p := p) (by omega) hn
  have hp47 : p ≠ [47] := by
    rintro rfl
    obtain ⟨nd, e⟩ := h.tp
    rw [hg] at e; cases e
  unfold L23.putT at hk ⊢
  split
  · rename_i e
    rw [if_pos e] at hk
    refine ⟨hk, fun x hx => ?_, fun x hx hne => ?_, fun x hx => ?_, fun x hx => ?_⟩
    · rcases List.mem_append.1 hx with hx | hx
      · exact h.pa x hx
      · rw [List.mem_singleton.1 hx]; exact come_path hc
    · rcases List.mem_append.1 hx with hx | hx
      · obtain ⟨nd, a, b⟩ := h.pr x hx hne
        exact ⟨nd, List.mem_append_left _ a, b⟩
      · rw [List.mem_singleton.1 hx]
        obtain ⟨nd, a, b, _⟩ := come_parent hc hp47
        exact ⟨nd, List.mem_append_left _ (mem_of_get a), b⟩
    · rcases List.mem_append.1 hx with hx | hx
      · exact h.dd x hx
      · rw [List.mem_singleton.1 hx]; exact hd
    · rcases List.mem_append.1 hx with hx | hx
      · exact h.ps x hx
      · rw [List.mem_singleton.1 hx]; exact hp
  · exact h
theorem TS.mkd {T : TL} (h : TS T) {who p : List UInt8} {z : Int} (hp : p.length ≤ 300) (hw : who.length ≤ 1000000) : TS (mkR T who p z).2 := by
  unfold mkR
  split
  · rename_i hc
    split
    · exact h
    · rename_i hr
      split
      · exact h
      · rename_i hg
        exact h.putT hc hg hp ⟨hw, by simp [rightB] at hr; dsimp only; omega, by simp⟩ fun _ => rfl
  · exact h
theorem TS.setD {T : TL} (h : TS T) {p d : List UInt8} {n : Nd} (hg : get T p = some n) (hf : n.dir = false) (hk : TK (setN T p { n with data := d })) : TS (setN T p { n with data := d }) := by
  obtain ⟨j, hj, hjf⟩ := findIdx_get hg
  have hm := List.mem_of_getElem? hj
  have e : setN T p { n with data := d } = T.set j (p, { n with data := d }) := by simp only [setN, hjf]
  rw [e] at hk ⊢
  refine ⟨hk, fun x hx => ?_, fun x hx hne => ?_, fun x hx => ?_, fun x hx => ?_⟩
  · rcases List.mem_or_eq_of_mem_set hx with hx | hx
    · exact h.pa x hx
    · rw [hx]; exact h.pa (p, n) hm
  · have : ∃ nd, (par x.1, nd) ∈ T ∧ nd.dir = true := by
      rcases List.mem_or_eq_of_mem_set hx with hx | hx
      · exact h.pr x hx hne
      · rw [hx] at hne ⊢; exact h.pr (p, n) hm hne
    obtain ⟨nd, a, b⟩ := this
    obtain ⟨k, hk'⟩ := List.mem_iff_getElem?.1 a
    have hjk : j ≠ k := by
      rintro rfl
      rw [hj] at hk'
      have e2 := Option.some.inj hk'
      rw [Prod.mk.injEq] at e2
      rw [← e2.2, hf] at b; cases b
    exact ⟨nd, List.mem_of_getElem? (i := k) (by rw [List.getElem?_set_ne hjk]; exact hk'), b⟩
  · rcases List.mem_or_eq_of_mem_set hx with hx | hx
    · exact h.dd x hx
    · rw [hx]; intro hd; dsimp only at hd; rw [hf] at hd; cases hd
  · rcases List.mem_or_eq_of_mem_set hx with hx | hx
    · exact h.ps x hx
    · rw [hx]; exact h.ps (p, n) hm
theorem TS.wr {T : TL} (h : TS T) {who p d : List UInt8} {z : Int} (hp : p.length ≤ 300) (hw : who.length ≤ 1000000) : TS (wrR T who p d z).2 := by
  have hk := h.toTK.wr (who := who) (p := p) (d := d) (z := z) (by omega) hw
  unfold wrR at hk ⊢
  split
  · rename_i hc
    rw [if_pos hc] at hk
    split
    · exact h
    · rename_i hr
      rw [if_neg hr] at hk
      split
      · exact h
      rename_i hl
      rw [if_neg hl] at hk
      cases hg : get T p with
      | none =>
        rw [hg] at hk
        exact h.putT hc hg hp ⟨hw, by simp [rightB] at hr; dsimp only; omega, by dsimp only; omega⟩ (by intro h; cases h)
      | some nd =>
        rw [hg] at hk
        dsimp only at hk ⊢
        split
        · exact h
        rename_i h4
        rw [if_neg h4] at hk
        split
        · exact h
        · rename_i h5
          rw [if_neg h5] at hk
          exact h.setD hg (by simpa using h4) hk
  · exact h
theorem TS.erase {T : TL} (h : TS T) {p : List UInt8} {n : Nd} {j : Nat} (hj : T[j]? = some (p, n)) (hp : p ≠ [47]) (hk : kids T p = []) : TS (T.eraseIdx j) := by
  have sub : ∀ x, x ∈ T.eraseIdx j → x ∈ T := fun x hx => (List.eraseIdx_sublist T j).subset hx
  have keep : ∀ (q : List UInt8) (nd : Nd), q ≠ p → (q, nd) ∈ T → (q, nd) ∈ T.eraseIdx j := fun q nd hq hm => by
    obtain ⟨k, hk⟩ := List.mem_iff_getElem?.1 hm
    rw [List.mem_eraseIdx_iff_getElem?]
    refine ⟨k, ?_, hk⟩
    rintro rfl
    rw [hj] at hk
    have := Option.some.inj hk
    rw [Prod.mk.injEq] at this
    exact hq this.1.symm
  have hnd : ((T.eraseIdx j).map (·.1)).Nodup := ((List.eraseIdx_sublist T j).map _).nodup h.nd
  refine ⟨⟨⟨hnd, fun x hx => h.pl x (sub x hx), fun x hx => h.ol x (sub x hx), fun x hx => h.md x (sub x hx), fun x hx => h.dl x (sub x hx)⟩, ?_, ?_⟩, fun x hx => h.pa x (sub x hx), fun x hx hne => ?_, fun x hx => h.dd x (sub x hx), fun x hx => h.ps x (sub x hx)⟩
  · obtain ⟨nd, e⟩ := h.tp
    exact ⟨nd, get_of_mem hnd (keep _ _ (fun e => hp e.symm) (mem_of_get e))⟩
  · have := (List.eraseIdx_sublist T j).length_le
    have := h.mx; omega
  · obtain ⟨nd, a, b⟩ := h.pr x (sub x hx) hne
    refine ⟨nd, keep _ _ (fun e => ?_) a, b⟩
    have : base x.1 ∈ kids T p := List.mem_map_of_mem (List.mem_filter.2 ⟨List.mem_map_of_mem (sub x hx), by simp [kidP, hne, e]⟩)
    rw [hk] at this; cases this
theorem TS.rm {T : TL} (h : TS T) {who p : List UInt8} : TS (rmR T who p).2 := by
  unfold rmR
  split
  · split
    · exact h
    rename_i hp
    cases hg : get T p with
    | none => exact h
    | some n =>
      dsimp only
      cases hg2 : get T (par p) with
      | none => exact h
      | some nd =>
        dsimp only
        split
        · exact h
        split
        · rename_i hk
          obtain ⟨j, hj, hjf⟩ := findIdx_get hg
          simp only [rmT, hjf]
          exact h.erase hj hp hk
        · exact h
  · exact h

/-! ### Paths in order -/
theorem lt_app (c : UInt8) (r : List UInt8) : ∀ l : List UInt8, l < l ++ c :: r
  | [] => List.nil_lt_cons _ _
  | x :: l => by
    rw [List.cons_append, List.cons_lt_cons_iff]
    exact .inr ⟨rfl, lt_app c r l⟩
theorem par_lt {p : List UInt8} (h0 : p[0]? = some 47) (hp : p ≠ [47]) : par p < p := by
  have hL := lastN_le p 47 p.length
  unfold par
  split
  · have e : p = p.take (lastN p 47 p.length - 1) ++ p.drop (lastN p 47 p.length - 1) := (List.take_append_drop _ _).symm
    cases hd : p.drop (lastN p 47 p.length - 1) with
    | nil => rw [List.drop_eq_nil_iff] at hd; omega
    | cons c r =>
      rw [hd] at e
      conv => rhs; rw [e]
      exact lt_app c r _
  · rcases p with _ | ⟨c, _ | ⟨d, r⟩⟩
    · simp at h0
    · simp at h0; subst h0; exact absurd rfl hp
    · simp at h0; subst h0; exact lt_app d r [47]
theorem pairwise_get {α : Type} {R : α → α → Prop} {l : List α} (h : l.Pairwise R) {i j : Nat} {a b : α} (hi : l[i]? = some a) (hj : l[j]? = some b) (hij : i < j) : R a b := by
  obtain ⟨h1, e1⟩ := List.getElem?_eq_some_iff.1 hi
  obtain ⟨h2, e2⟩ := List.getElem?_eq_some_iff.1 hj
  rw [← e1, ← e2]
  exact List.pairwise_iff_getElem.1 h i j h1 h2 hij
structure NL (T : TL) (N : TL) : Prop where
  len : N.length = T.length
  mem : ∀ x ∈ N, x ∈ T
  inn : ∀ x ∈ T, x ∈ N
  srt : N.Pairwise fun a b => a.1 < b.1
theorem srt_lt {l : List (List UInt8)} (h : l.Nodup) : (srt l).Pairwise fun a b => a < b := by
  have tr : ∀ a b c : List UInt8, leB a b = true → leB b c = true → leB a c = true := fun a b c h1 h2 => by simp only [leB, decide_eq_true_eq] at *; exact List.le_trans h1 h2
  have to : ∀ a b : List UInt8, (leB a b || leB b a) = true := fun a b => by simp only [leB, Bool.or_eq_true, decide_eq_true_eq]; exact List.le_total a b
  have h1 := List.pairwise_mergeSort tr to l
  have h2 : (l.mergeSort leB).Nodup := (List.mergeSort_perm l leB).nodup_iff.2 h
  have h3 := h1.and h2
  refine h3.imp fun {a b} ⟨q1, q2⟩ => ?_
  simp only [leB, decide_eq_true_eq] at q1
  by_cases e : a < b
  · exact e
  · exact absurd (List.le_antisymm q1 (List.not_lt.1 e)) q2
theorem nodes_NL {T : TL} (h : TI T) : NL T (nodesL T) := by
  have hp : (srt (T.map (·.1))).Perm (T.map (·.1)) := List.mergeSort_perm _ _
  have key : ∀ x ∈ T, look1 T x.1 = x := fun x hx => by rw [look1, get_of_mem h.nd hx]; rfl
  refine ⟨?_, fun x hx => ?_, fun x hx => ?_, ?_⟩
  · rw [nodesL, List.length_map, hp.length_eq, List.length_map]
  · obtain ⟨p, hp1, rfl⟩ := List.mem_map.1 hx
    obtain ⟨y, hy, rfl⟩ := List.mem_map.1 (hp.mem_iff.1 hp1)
    rw [key y hy]; exact hy
  · rw [← key x hx]
    exact List.mem_map_of_mem (hp.mem_iff.2 (List.mem_map_of_mem hx))
  · rw [nodesL, List.pairwise_map]
    exact (srt_lt h.nd).imp fun {a b} q => q
theorem NL.par_at {T N : TL} (h : NL T N) (hT : TS T) {j : Nat} {x : List UInt8 × Nd} (hj : N[j]? = some x) (hx : x.1 ≠ [47]) : ∃ j' nd, j' < j ∧ N[j']? = some (par x.1, nd) ∧ nd.dir = true := by
  have hm := h.mem x (List.mem_of_getElem? hj)
  obtain ⟨nd, a, b⟩ := hT.pr x hm hx
  obtain ⟨k, hk⟩ := List.mem_iff_getElem?.1 (h.inn _ a)
  have hlt := par_lt (pathB_head (hT.pa x hm)) hx
  refine ⟨k, nd, ?_, hk, b⟩
  by_cases e : k < j
  · exact e
  exfalso
  by_cases e2 : k = j
  · subst e2
    rw [hj] at hk
    have e3 := congrArg Prod.fst (Option.some.inj hk)
    dsimp only at e3
    rw [← e3] at hlt
    exact List.lt_irrefl _ hlt
  · have := pairwise_get h.srt hj hk (by omega)
    dsimp only at this
    exact List.lt_irrefl _ (List.lt_trans hlt this)
theorem NL.first {T N : TL} (h : NL T N) (hT : TS T) : ∃ nd, N[0]? = some ([47], nd) := by
  obtain ⟨nd, e⟩ := hT.tp
  obtain ⟨k, hk⟩ := List.mem_iff_getElem?.1 (h.inn _ (mem_of_get e))
  match k, hk with
  | 0, hk => exact ⟨nd, hk⟩
  | k + 1, hk =>
    exfalso
    have h0 : 0 < N.length := by have := (List.getElem?_eq_some_iff.1 hk).1; omega
    have hg : N[0]? = some N[0] := List.getElem?_eq_getElem h0
    have h1 := pairwise_get h.srt hg hk (by omega)
    dsimp only at h1
    have h2 := pathB_head (hT.pa _ (h.mem _ (List.mem_of_getElem? hg)))
    generalize N[0] = y at h1 h2
    obtain ⟨p, nd⟩ := y
    dsimp only at h1 h2
    rcases p with _ | ⟨c, _ | ⟨d, r⟩⟩
    · simp at h2
    · simp at h2; subst h2; exact List.lt_irrefl _ h1
    · simp at h2; subst h2
      exact List.lt_irrefl _ (List.lt_trans h1 (lt_app d r [47]))
theorem bytesLess_lt : ∀ (x y : List UInt8), Op.bytesLess x y = decide (x < y)
  | [], [] => by simp [Op.bytesLess]
  | _ :: _, [] => by simp [Op.bytesLess]
  | [], _ :: _ => by simp [Op.bytesLess]
  | a :: x, b :: y => by
    rw [Op.bytesLess, bytesLess_lt x y]
    simp only [List.cons_lt_cons_iff]
    by_cases h1 : a < b <;> by_cases h2 : a = b <;> by_cases h3 : x < y <;> simp [h1, h2, h3]
theorem strA_geq {a b : List UInt8} : strA .geq ⟨a.toArray⟩ ⟨b.toArray⟩ = some (.bool !decide (a < b)) := by
  simp only [strA, ByteArray.toList_mk, bytesLess_lt]
end L23
end

section
open Go Ab Go.Proofs
namespace L23
set_option autoImplicit false
set_option linter.unusedSimpArgs false
set_option linter.unusedVariables false

/-- The document's Parent is the tree's. -/
theorem rpar_calls {h : AHeap} {l : List UInt8} (hm : l.length ≤ 1000000) :
    ACalls Tryz.prog 64 #[tx l] h fun r h' => r = tx (par l) ∧ h' = h := by
  refine ACalls.of_awp (args := [tx l]) (n := 18) Tryz.func64 rfl rfl (by show 1 ≤ 18; omega) ?_
  have w0 : IntKind.i64.wrap ((l.length : Int) - 1) = (l.length : Int) - 1 := wI64 (by omega) (by omega)
  (repeat' first
    | refine AWP.seq ?_
    | refine AWP.block ?_
    | (refine AWP.skip ?_; try dsimp only [thn, inBlk])
    | (refine AWP.exit ?_; try simp only [thn, inBlk, if_true, reduceIte, Nat.reduceEqDiff])
    | (refine AWP.ret ?_; try dsimp only [thn, inBlk])
    | (refine AWP.condT ?_ ?_; (focus (simp [go_sem, w0]; done)))
    | (refine AWP.condF ?_ ?_; (focus (simp [go_sem, w0]; done)))
    | (apply AWP.rE; (focus (simp [go_sem, w0]; exact ⟨rfl, rfl⟩)); try dsimp only [thn, inBlk])
    | fail)
  refine AWP.loopR [0, 3] (fun m s h' => ∃ i : Nat, i ≤ l.length ∧ m = i ∧ s = ⟨18, [(0, tx l), (3, .int .i64 ((i : Int) - 1))]⟩ ∧ lastN l 47 l.length = lastN l 47 i ∧ h' = h) ?_ ?_
  · exact ⟨_, l.length, Nat.le_refl _, rfl, rfl, rfl, rfl⟩
  rintro i s h' ⟨_, hi, rfl, rfl, hL, rfl⟩
  by_cases h1 : 1 < i
  rotate_left
  · have hp : par l = [47] := by
      have := lastN_le l 47 i
      unfold par; rw [if_neg (by omega)]
    rw [hp]
    have h1' : ¬ (1 : Int) < i := by omega
    (repeat' first
      | refine AWP.seq ?_
      | refine AWP.block ?_
      | (refine AWP.skip ?_; try dsimp only [thn, inBlk])
      | (refine AWP.exit ?_; try simp only [thn, inBlk, if_true, reduceIte, Nat.reduceEqDiff])
      | (refine AWP.ret ?_; try dsimp only [thn, inBlk])
      | (refine AWP.condT ?_ ?_; (focus (simp [go_sem, h1']; done)))
      | (refine AWP.condF ?_ ?_; (focus (simp [go_sem, h1']; done)))
      | (apply AWP.rE; (focus (simp [go_sem, h1']; exact ⟨rfl, rfl⟩)); try dsimp only [thn, inBlk])
      | fail)
    simp [bodyQ, thn, inBlk, resA, resV, go_sem]
  rcases i with _ | i
  · omega
  have h1n : 0 < i := by omega
  have e0 : ((i + 1 : Nat) : Int) - 1 = (i : Int) := by omega
  rw [e0]
  have w1 : IntKind.i64.wrap ((i : Int) - 1) = (i : Int) - 1 := wI64 (by omega) (by omega)
  have x1 : indexP Tryz.prog 9 (tx l) (.int .i64 (i : Int)) = some (.int .u8 l[i].toNat) := str_index Tryz.underlying9 (by omega)
  have hc : l[i]? = some l[i] := List.getElem?_eq_getElem (by omega)
  generalize l[i] = c at x1 hc
  rw [lastN, hc] at hL
  by_cases h47 : c = 47
  · have h47' : ((c.toNat : Int) == 47) = true := by rw [h47]; rfl
    rw [if_pos (by rw [h47])] at hL
    have hp : par l = l.take i := by
      unfold par; rw [if_pos (by omega), hL]; rfl
    rw [hp]
    have s1 : ∀ hh, sliceR Tryz.prog hh 9 (tx l) none (some (.int .i64 (i : Int))) none = some (tx (l.take i)) := fun hh => by
      have := str_slice (P := Tryz.prog) (h := hh) Tryz.underlying9 (l := l) (lo := 0) (hi := i) (a := none) (u := some (.int .i64 (i : Int))) (by omega) (by omega) (.inl ⟨rfl, rfl⟩) (.inr ⟨.i64, rfl⟩)
      exact this
    (repeat' first
      | refine AWP.seq ?_
      | refine AWP.block ?_
      | (refine AWP.skip ?_; try dsimp only [thn, inBlk])
      | (refine AWP.exit ?_; try simp only [thn, inBlk, if_true, reduceIte, Nat.reduceEqDiff])
      | (refine AWP.ret ?_; try dsimp only [thn, inBlk])
      | (refine AWP.condT ?_ ?_; (focus (simp [go_sem, h1n, x1, h47', s1]; done)))
      | (refine AWP.condF ?_ ?_; (focus (simp [go_sem, h1n, x1, h47', s1]; done)))
      | (apply AWP.rE; (focus (simp [go_sem, h1n, x1, h47', s1]; exact ⟨rfl, rfl⟩)); try dsimp only [thn, inBlk])
      | fail)
    simp [bodyQ, thn, inBlk, resA, resV, go_sem]
  · have h47' : ((c.toNat : Int) == 47) = false := neI h47
    rw [if_neg (by intro e; exact h47 (Option.some.inj e))] at hL
    (repeat' first
      | refine AWP.seq ?_
      | refine AWP.block ?_
      | (refine AWP.skip ?_; try dsimp only [thn, inBlk])
      | (refine AWP.exit ?_; try simp only [thn, inBlk, if_true, reduceIte, Nat.reduceEqDiff])
      | (refine AWP.ret ?_; try dsimp only [thn, inBlk])
      | (refine AWP.condT ?_ ?_; (focus (simp [go_sem, h1n, x1, h47', w1]; done)))
      | (refine AWP.condF ?_ ?_; (focus (simp [go_sem, h1n, x1, h47', w1]; done)))
      | (apply AWP.rE; (focus (simp [go_sem, h1n, x1, h47', w1]; exact ⟨rfl, rfl⟩)); try dsimp only [thn, inBlk])
      | fail)
    exact ⟨i, by omega, i, by omega, rfl, by simp [go_sem], hL, rfl⟩
end L23
end

section
open Go Ab Go.Proofs
namespace L23
set_option autoImplicit false
set_option linter.unusedSimpArgs false
set_option linter.unusedVariables false

abbrev bl : Bool → Value := .bool
/-- The directories met so far. -/
def dirs (N : TL) : List (List UInt8 × Bool) := (N.filter fun x => x.2.dir).map fun x => (x.1, true)
abbrev agN (x : List UInt8 × Nd) (a : Option Addr) (cap : Nat) : List Value := [tx x.1, .bool x.2.dir, tx x.2.own, .int .i64 x.2.mode, .slice a x.2.data.length cap]
theorem nds_row {O : Old} {h : AHeap} {R : List Chunk} {v : Value} {xs : TL} {j : Nat} {x : List UInt8 × Nd} (k : Own O h (nds v xs :: R)) (hj : xs[j]? = some x) {kd : IntKind} :
    ∃ i off c e' sz' ti ro a cap, indexAddrP Tryz.prog 39 v (.int kd j) = some (.pointer (some ⟨i, off, none⟩)) ∧ h.obj i = some (.row c e' sz' ti ro) ∧ off + 5 ≤ c.length ∧ (c.drop off).take 5 = agN x a cap ∧ c[off]? = some (tx x.1) := by
  obtain ⟨hjl, _⟩ := List.getElem?_eq_some_iff.1 hj
  obtain ⟨ws, hw, k0⟩ := grecs_iff.1 k
  have hwj : ws[j]? = some (ws[j]'(by omega)) := List.getElem?_eq_getElem (by omega)
  generalize ws[j]'(by omega) = w at hwj
  obtain ⟨a, cap⟩ := w
  obtain ⟨i, off, c, e', sz', ti, ro, q1, q2, q3, q4, q5⟩ := k0.os_sl.record (P := Tryz.prog) (t := 39) Tryz.underlying39 tsz47 (l := gcells ncells xs ws) (gcells_all (fun _ _ => rfl)) (gcells_length hw) hjl (kd := kd)
  have hr := gcells_get (row := ncells) hj hwj
  rw [List.getElem?_eq_getElem (by rw [gcells_length hw]; exact hjl)] at hr
  have hr := Option.some.inj hr
  rw [hr] at q4 q5
  exact ⟨i, off, c, e', sz', ti, ro, a, cap, q1, q2, q3, q4, q5 0 _ rfl⟩

theorem dirs_take {N : TL} {x : Nat} {y : List UInt8 × Nd} (hy : N[x]? = some y) : dirs (N.take (x + 1)) = dirs (N.take x) ++ (if y.2.dir = true then [(y.1, true)] else []) := by
  obtain ⟨h1, h2⟩ := List.getElem?_eq_some_iff.1 hy
  rw [List.take_succ_eq_append_getElem h1, h2]
  simp only [dirs, List.filter_append, List.map_append]
  cases hd : y.2.dir <;> simp [hd]
theorem dirs_key {N : TL} (h : N.Pairwise fun a b => a.1 < b.1) (x : Nat) : ((dirs (N.take x)).map (·.1)).Nodup := by
  have e : (dirs (N.take x)).map (·.1) = ((N.take x).filter fun x => x.2.dir).map (·.1) := by simp [dirs, List.map_map, Function.comp_def]
  rw [e]
  have h1 : (N.map (·.1)).Nodup := by
    rw [List.Nodup, List.pairwise_map]
    exact h.imp fun {a b} q e => by rw [e] at q; exact List.lt_irrefl _ q
  exact ((List.filter_sublist.trans (List.take_sublist x N)).map _).nodup h1
theorem dirs_mem {N : TL} {x j : Nat} {p : List UInt8} {nd : Nd} (hj : N[j]? = some (p, nd)) (h : j < x) (hd : nd.dir = true) : (p, true) ∈ dirs (N.take x) := by
  refine List.mem_map.2 ⟨(p, nd), List.mem_filter.2 ⟨?_, hd⟩, rfl⟩
  exact List.mem_of_getElem? (i := j) (by rw [List.getElem?_take_of_lt h]; exact hj)
theorem dirs_lt {N : TL} (h : N.Pairwise fun a b => a.1 < b.1) {x : Nat} {y : List UInt8 × Nd} (hy : N[x]? = some y) : ∀ p ∈ dirs (N.take x), p.1 ≠ y.1 ∧ ∃ z ∈ N, z.1 = p.1 := by
  intro p hp
  obtain ⟨z, hz, rfl⟩ := List.mem_map.1 hp
  obtain ⟨hz, _⟩ := List.mem_filter.1 hz
  obtain ⟨j, hj⟩ := List.mem_iff_getElem?.1 hz
  have hjx : j < x := by
    have := (List.getElem?_eq_some_iff.1 hj).1
    rw [List.length_take] at this; omega
  rw [List.getElem?_take_of_lt hjx] at hj
  have := pairwise_get h hj hy hjx
  exact ⟨fun e => by dsimp only at e; rw [e] at this; exact List.lt_irrefl _ this, z, List.mem_of_getElem? hj, rfl⟩

end L23
end

section
open Go Ab Go.Proofs
namespace L23
set_option autoImplicit false
set_option linter.unusedSimpArgs false
set_option linter.unusedVariables false

/-! ### The document's names and paths -/
set_option maxHeartbeats 16000000 in
theorem rname_calls {h : AHeap} {l : List UInt8} (hm : l.length ≤ 1000000) : ACalls Tryz.prog 85 #[tx l] h fun r h' => r = .bool (nm l) ∧ h' = h := by
  refine ACalls.of_awp (args := [tx l]) (n := 64) Tryz.func85 rfl rfl (by show 1 ≤ 64; omega) ?_
  by_cases h0 : l = []
  · subst h0
    (repeat' first
      | refine AWP.seq ?_
      | refine AWP.block ?_
      | (refine AWP.skip ?_; try dsimp only [thn, inBlk])
      | (refine AWP.exit ?_; try simp only [thn, inBlk, if_true, reduceIte, Nat.reduceEqDiff])
      | (refine AWP.ret ?_; try dsimp only [thn, inBlk])
      | (refine AWP.condT ?_ ?_; (focus (simp [go_sem]; done)))
      | (refine AWP.condF ?_ ?_; (focus (simp [go_sem]; done)))
      | (apply AWP.rE; (focus (simp [go_sem]; exact ⟨rfl, rfl⟩)); try dsimp only [thn, inBlk])
      | fail)
    simp [bodyQ, thn, inBlk, resA, resV, go_sem]
    rfl
  have hl0 : l.length ≠ 0 := by simpa using h0
  have h0' : ¬ (l.length : Int) < 1 := by omega
  have h0n : (l == []) = false := by simpa using h0
  by_cases h12 : 12 < l.length
  · have h12' : (12 : Int) < l.length := by omega
    have e : nm l = false := by
      have : ¬ l.length ≤ 12 := by omega
      simp [nm, this]
    rw [e]
    (repeat' first
      | refine AWP.seq ?_
      | refine AWP.block ?_
      | (refine AWP.skip ?_; try dsimp only [thn, inBlk])
      | (refine AWP.exit ?_; try simp only [thn, inBlk, if_true, reduceIte, Nat.reduceEqDiff])
      | (refine AWP.ret ?_; try dsimp only [thn, inBlk])
      | (refine AWP.condT ?_ ?_; (focus (simp [go_sem, h0, h0', h12']; done)))
      | (refine AWP.condF ?_ ?_; (focus (simp [go_sem, h0, h0', h12']; done)))
      | (apply AWP.rE; (focus (simp [go_sem, h0, h0', h12']; exact ⟨rfl, rfl⟩)); try dsimp only [thn, inBlk])
      | fail)
    simp [bodyQ, thn, inBlk, resA, resV, go_sem]
  have h12' : ¬ (12 : Int) < l.length := by omega
  by_cases h3 : l = [46]
  · have h3' : (l == [46]) = true := by simpa using h3
    have e : nm l = false := by simp [nm, h3]
    rw [e]
    (repeat' first
      | refine AWP.seq ?_
      | refine AWP.block ?_
      | (refine AWP.skip ?_; try dsimp only [thn, inBlk])
      | (refine AWP.exit ?_; try simp only [thn, inBlk, if_true, reduceIte, Nat.reduceEqDiff])
      | (refine AWP.ret ?_; try dsimp only [thn, inBlk])
      | (refine AWP.condT ?_ ?_; (focus (simp [go_sem, h0, h0', h12', h3']; done)))
      | (refine AWP.condF ?_ ?_; (focus (simp [go_sem, h0, h0', h12', h3']; done)))
      | (apply AWP.rE; (focus (simp [go_sem, h0, h0', h12', h3']; exact ⟨rfl, rfl⟩)); try dsimp only [thn, inBlk])
      | fail)
    simp [bodyQ, thn, inBlk, resA, resV, go_sem]
  have h3' : (l == [46]) = false := by simpa using h3
  by_cases h4 : l = [46, 46]
  · have h4' : (l == [46, 46]) = true := by simpa using h4
    have e : nm l = false := by simp [nm, h4]
    rw [e]
    (repeat' first
      | refine AWP.seq ?_
      | refine AWP.block ?_
      | (refine AWP.skip ?_; try dsimp only [thn, inBlk])
      | (refine AWP.exit ?_; try simp only [thn, inBlk, if_true, reduceIte, Nat.reduceEqDiff])
      | (refine AWP.ret ?_; try dsimp only [thn, inBlk])
      | (refine AWP.condT ?_ ?_; (focus (simp [go_sem, h0, h0', h12', h3', h4']; done)))
      | (refine AWP.condF ?_ ?_; (focus (simp [go_sem, h0, h0', h12', h3', h4']; done)))
      | (apply AWP.rE; (focus (simp [go_sem, h0, h0', h12', h3', h4']; exact ⟨rfl, rfl⟩)); try dsimp only [thn, inBlk])
      | fail)
    simp [bodyQ, thn, inBlk, resA, resV, go_sem]
  have h4' : (l == [46, 46]) = false := by simpa using h4
  (repeat' first
    | refine AWP.seq ?_
    | refine AWP.block ?_
    | (refine AWP.skip ?_; try dsimp only [thn, inBlk])
    | (refine AWP.exit ?_; try simp only [thn, inBlk, if_true, reduceIte, Nat.reduceEqDiff])
    | (refine AWP.ret ?_; try dsimp only [thn, inBlk])
    | (refine AWP.condT ?_ ?_; (focus (simp [go_sem, h0, h0', h12', h3', h4']; done)))
    | (refine AWP.condF ?_ ?_; (focus (simp [go_sem, h0, h0', h12', h3', h4']; done)))
    | (apply AWP.rE; (focus (simp [go_sem, h0, h0', h12', h3', h4']; exact ⟨rfl, rfl⟩)); try dsimp only [thn, inBlk])
    | fail)
  refine AWP.loopR [0, 3] (fun m s h' => ∃ j : Nat, j ≤ l.length ∧ m = l.length - j ∧ s = ⟨64, [(0, tx l), (3, .int .i64 j)]⟩ ∧ (l.all okc = (l.drop j).all okc) ∧ h' = h) ?_ ?_
  · exact ⟨_, 0, by omega, rfl, rfl, rfl, rfl⟩
  rintro m s h1 ⟨j, hj, rfl, rfl, hI, rfl⟩
  by_cases hjm : j < l.length
  rotate_left
  · have hjm' : ¬ (j : Int) < l.length := by omega
    have ha : l.all okc = true := by rw [hI, List.drop_eq_nil_iff.2 (by omega)]; rfl
    have e : nm l = true := by
      have : l.length ≤ 12 := by omega
      simp [nm, ha, h0, this, h3, h4]
    rw [e]
    (repeat' first
      | refine AWP.seq ?_
      | refine AWP.block ?_
      | (refine AWP.skip ?_; try dsimp only [thn, inBlk])
      | (refine AWP.exit ?_; try simp only [thn, inBlk, if_true, reduceIte, Nat.reduceEqDiff])
      | (refine AWP.ret ?_; try dsimp only [thn, inBlk])
      | (refine AWP.condT ?_ ?_; (focus (simp [go_sem, hjm']; done)))
      | (refine AWP.condF ?_ ?_; (focus (simp [go_sem, hjm']; done)))
      | (apply AWP.rE; (focus (simp [go_sem, hjm']; exact ⟨rfl, rfl⟩)); try dsimp only [thn, inBlk])
      | fail)
    simp [bodyQ, thn, inBlk, resA, resV, go_sem]
  have hjm' : (j : Int) < l.length := by omega
  have x1 : indexP Tryz.prog 9 (tx l) (.int .i64 (j : Int)) = some (.int .u8 l[j].toNat) := str_index Tryz.underlying9 (by omega)
  have hdr : l.drop j = l[j] :: l.drop (j + 1) := List.drop_eq_getElem_cons hjm
  generalize l[j] = c at x1 hdr
  rw [hdr, List.all_cons] at hI
  have w1 : IntKind.i64.wrap ((j : Int) + 1) = ((j + 1 : Nat) : Int) := by rw [wI64 (by omega) (by omega)]; omega
  have hc255 := c.toNat_lt
  by_cases a1 : c.toNat ≤ 47
  · have f1 : (c.toNat : Int) < 97 := by omega
    have f3 : (c.toNat : Int) < 65 := by omega
    have f5 : (c.toNat : Int) < 48 := by omega
    have nl : letter c = false := by simp [letter]; omega
    by_cases e1 : c = 45
    · have hk : okc c = true := by rw [e1]; decide
      rw [hk, Bool.true_and] at hI
      have e1' : ((c.toNat : Int) != 45) = false := by rw [e1]; decide
      (repeat' first
        | refine AWP.seq ?_
        | refine AWP.block ?_
        | (refine AWP.skip ?_; try dsimp only [thn, inBlk])
        | (refine AWP.exit ?_; try simp only [thn, inBlk, if_true, reduceIte, Nat.reduceEqDiff])
        | (refine AWP.ret ?_; try dsimp only [thn, inBlk])
        | (refine AWP.condT ?_ ?_; (focus (simp [go_sem, hjm', x1, w1, f1, f3, f5, e1']; done)))
        | (refine AWP.condF ?_ ?_; (focus (simp [go_sem, hjm', x1, w1, f1, f3, f5, e1']; done)))
        | (apply AWP.rE; (focus (simp [go_sem, hjm', x1, w1, f1, f3, f5, e1']; exact ⟨rfl, rfl⟩)); try dsimp only [thn, inBlk])
        | fail)
      exact ⟨l.length - (j + 1), by omega, j + 1, by omega, rfl, by simp [go_sem], hI, rfl⟩
    have e1' : ((c.toNat : Int) != 45) = true := by
      have := neB (d := 45) e1; simp at this ⊢; omega
    by_cases e2 : c = 46
    · have hk : okc c = true := by rw [e2]; decide
      rw [hk, Bool.true_and] at hI
      have e2' : ((c.toNat : Int) != 46) = false := by rw [e2]; decide
      (repeat' first
        | refine AWP.seq ?_
        | refine AWP.block ?_
        | (refine AWP.skip ?_; try dsimp only [thn, inBlk])
        | (refine AWP.exit ?_; try simp only [thn, inBlk, if_true, reduceIte, Nat.reduceEqDiff])
        | (refine AWP.ret ?_; try dsimp only [thn, inBlk])
        | (refine AWP.condT ?_ ?_; (focus (simp [go_sem, hjm', x1, w1, f1, f3, f5, e1', e2']; done)))
        | (refine AWP.condF ?_ ?_; (focus (simp [go_sem, hjm', x1, w1, f1, f3, f5, e1', e2']; done)))
        | (apply AWP.rE; (focus (simp [go_sem, hjm', x1, w1, f1, f3, f5, e1', e2']; exact ⟨rfl, rfl⟩)); try dsimp only [thn, inBlk])
        | fail)
      exact ⟨l.length - (j + 1), by omega, j + 1, by omega, rfl, by simp [go_sem], hI, rfl⟩
    have e2' : ((c.toNat : Int) != 46) = true := by
      have := neB (d := 46) e2; simp at this ⊢; omega
    by_cases e3 : c = 95
    · have hk : okc c = true := by rw [e3]; decide
      rw [hk, Bool.true_and] at hI
      have e3' : ((c.toNat : Int) != 95) = false := by rw [e3]; decide
      (repeat' first
        | refine AWP.seq ?_
        | refine AWP.block ?_
        | (refine AWP.skip ?_; try dsimp only [thn, inBlk])
        | (refine AWP.exit ?_; try simp only [thn, inBlk, if_true, reduceIte, Nat.reduceEqDiff])
        | (refine AWP.ret ?_; try dsimp only [thn, inBlk])
        | (refine AWP.condT ?_ ?_; (focus (simp [go_sem, hjm', x1, w1, f1, f3, f5, e1', e2', e3']; done)))
        | (refine AWP.condF ?_ ?_; (focus (simp [go_sem, hjm', x1, w1, f1, f3, f5, e1', e2', e3']; done)))
        | (apply AWP.rE; (focus (simp [go_sem, hjm', x1, w1, f1, f3, f5, e1', e2', e3']; exact ⟨rfl, rfl⟩)); try dsimp only [thn, inBlk])
        | fail)
      exact ⟨l.length - (j + 1), by omega, j + 1, by omega, rfl, by simp [go_sem], hI, rfl⟩
    have e3' : ((c.toNat : Int) != 95) = true := by
      have := neB (d := 95) e3; simp at this ⊢; omega
    have hk : okc c = false := by simp [okc, nl, e1, e2, e3]
    rw [hk, Bool.false_and] at hI
    have e : nm l = false := by rw [nm, hI]; rfl
    rw [e]
    (repeat' first
      | refine AWP.seq ?_
      | refine AWP.block ?_
      | (refine AWP.skip ?_; try dsimp only [thn, inBlk])
      | (refine AWP.exit ?_; try simp only [thn, inBlk, if_true, reduceIte, Nat.reduceEqDiff])
      | (refine AWP.ret ?_; try dsimp only [thn, inBlk])
      | (refine AWP.condT ?_ ?_; (focus (simp [go_sem, hjm', x1, w1, f1, f3, f5, e1', e2', e3']; done)))
      | (refine AWP.condF ?_ ?_; (focus (simp [go_sem, hjm', x1, w1, f1, f3, f5, e1', e2', e3']; done)))
      | (apply AWP.rE; (focus (simp [go_sem, hjm', x1, w1, f1, f3, f5, e1', e2', e3']; exact ⟨rfl, rfl⟩)); try dsimp only [thn, inBlk])
      | fail)
    simp [bodyQ, thn, inBlk, resA, resV, go_sem]
  by_cases a2 : c.toNat ≤ 57
  · have f1 : (c.toNat : Int) < 97 := by omega
    have f3 : (c.toNat : Int) < 65 := by omega
    have f5 : ¬ (c.toNat : Int) < 48 := by omega
    have f6 : ¬ (57 : Int) < c.toNat := by omega
    have hk : okc c = true := by simp [okc, letter]; omega
    rw [hk, Bool.true_and] at hI
    (repeat' first
      | refine AWP.seq ?_
      | refine AWP.block ?_
      | (refine AWP.skip ?_; try dsimp only [thn, inBlk])
      | (refine AWP.exit ?_; try simp only [thn, inBlk, if_true, reduceIte, Nat.reduceEqDiff])
      | (refine AWP.ret ?_; try dsimp only [thn, inBlk])
      | (refine AWP.condT ?_ ?_; (focus (simp [go_sem, hjm', x1, w1, f1, f3, f5, f6]; done)))
      | (refine AWP.condF ?_ ?_; (focus (simp [go_sem, hjm', x1, w1, f1, f3, f5, f6]; done)))
      | (apply AWP.rE; (focus (simp [go_sem, hjm', x1, w1, f1, f3, f5, f6]; exact ⟨rfl, rfl⟩)); try dsimp only [thn, inBlk])
      | fail)
    exact ⟨l.length - (j + 1), by omega, j + 1, by omega, rfl, by simp [go_sem], hI, rfl⟩
  by_cases a3 : c.toNat ≤ 64
  · have f1 : (c.toNat : Int) < 97 := by omega
    have f3 : (c.toNat : Int) < 65 := by omega
    have f5 : ¬ (c.toNat : Int) < 48 := by omega
    have f6 : (57 : Int) < c.toNat := by omega
    have nl : letter c = false := by simp [letter]; omega
    by_cases e1 : c = 45
    · have hk : okc c = true := by rw [e1]; decide
      rw [hk, Bool.true_and] at hI
      have e1' : ((c.toNat : Int) != 45) = false := by rw [e1]; decide
      (repeat' first
        | refine AWP.seq ?_
        | refine AWP.block ?_
        | (refine AWP.skip ?_; try dsimp only [thn, inBlk])
        | (refine AWP.exit ?_; try simp only [thn, inBlk, if_true, reduceIte, Nat.reduceEqDiff])
        | (refine AWP.ret ?_; try dsimp only [thn, inBlk])
        | (refine AWP.condT ?_ ?_; (focus (simp [go_sem, hjm', x1, w1, f1, f3, f5, f6, e1']; done)))
        | (refine AWP.condF ?_ ?_; (focus (simp [go_sem, hjm', x1, w1, f1, f3, f5, f6, e1']; done)))
        | (apply AWP.rE; (focus (simp [go_sem, hjm', x1, w1, f1, f3, f5, f6, e1']; exact ⟨rfl, rfl⟩)); try dsimp only [thn, inBlk])
        | fail)
      exact ⟨l.length - (j + 1), by omega, j + 1, by omega, rfl, by simp [go_sem], hI, rfl⟩
    have e1' : ((c.toNat : Int) != 45) = true := by
      have := neB (d := 45) e1; simp at this ⊢; omega
    by_cases e2 : c = 46
    · have hk : okc c = true := by rw [e2]; decide
      rw [hk, Bool.true_and] at hI
      have e2' : ((c.toNat : Int) != 46) = false := by rw [e2]; decide
      (repeat' first
        | refine AWP.seq ?_
        | refine AWP.block ?_
        | (refine AWP.skip ?_; try dsimp only [thn, inBlk])
        | (refine AWP.exit ?_; try simp only [thn, inBlk, if_true, reduceIte, Nat.reduceEqDiff])
        | (refine AWP.ret ?_; try dsimp only [thn, inBlk])
        | (refine AWP.condT ?_ ?_; (focus (simp [go_sem, hjm', x1, w1, f1, f3, f5, f6, e1', e2']; done)))
        | (refine AWP.condF ?_ ?_; (focus (simp [go_sem, hjm', x1, w1, f1, f3, f5, f6, e1', e2']; done)))
        | (apply AWP.rE; (focus (simp [go_sem, hjm', x1, w1, f1, f3, f5, f6, e1', e2']; exact ⟨rfl, rfl⟩)); try dsimp only [thn, inBlk])
        | fail)
      exact ⟨l.length - (j + 1), by omega, j + 1, by omega, rfl, by simp [go_sem], hI, rfl⟩
    have e2' : ((c.toNat : Int) != 46) = true := by
      have := neB (d := 46) e2; simp at this ⊢; omega
    by_cases e3 : c = 95
    · have hk : okc c = true := by rw [e3]; decide
      rw [hk, Bool.true_and] at hI
      have e3' : ((c.toNat : Int) != 95) = false := by rw [e3]; decide
      (repeat' first
        | refine AWP.seq ?_
        | refine AWP.block ?_
        | (refine AWP.skip ?_; try dsimp only [thn, inBlk])
        | (refine AWP.exit ?_; try simp only [thn, inBlk, if_true, reduceIte, Nat.reduceEqDiff])
        | (refine AWP.ret ?_; try dsimp only [thn, inBlk])
        | (refine AWP.condT ?_ ?_; (focus (simp [go_sem, hjm', x1, w1, f1, f3, f5, f6, e1', e2', e3']; done)))
        | (refine AWP.condF ?_ ?_; (focus (simp [go_sem, hjm', x1, w1, f1, f3, f5, f6, e1', e2', e3']; done)))
        | (apply AWP.rE; (focus (simp [go_sem, hjm', x1, w1, f1, f3, f5, f6, e1', e2', e3']; exact ⟨rfl, rfl⟩)); try dsimp only [thn, inBlk])
        | fail)
      exact ⟨l.length - (j + 1), by omega, j + 1, by omega, rfl, by simp [go_sem], hI, rfl⟩
    have e3' : ((c.toNat : Int) != 95) = true := by
      have := neB (d := 95) e3; simp at this ⊢; omega
    have hk : okc c = false := by simp [okc, nl, e1, e2, e3]
    rw [hk, Bool.false_and] at hI
    have e : nm l = false := by rw [nm, hI]; rfl
    rw [e]
    (repeat' first
      | refine AWP.seq ?_
      | refine AWP.block ?_
      | (refine AWP.skip ?_; try dsimp only [thn, inBlk])
      | (refine AWP.exit ?_; try simp only [thn, inBlk, if_true, reduceIte, Nat.reduceEqDiff])
      | (refine AWP.ret ?_; try dsimp only [thn, inBlk])
      | (refine AWP.condT ?_ ?_; (focus (simp [go_sem, hjm', x1, w1, f1, f3, f5, f6, e1', e2', e3']; done)))
      | (refine AWP.condF ?_ ?_; (focus (simp [go_sem, hjm', x1, w1, f1, f3, f5, f6, e1', e2', e3']; done)))
      | (apply AWP.rE; (focus (simp [go_sem, hjm', x1, w1, f1, f3, f5, f6, e1', e2', e3']; exact ⟨rfl, rfl⟩)); try dsimp only [thn, inBlk])
      | fail)
    simp [bodyQ, thn, inBlk, resA, resV, go_sem]
  by_cases a4 : c.toNat ≤ 90
  · have f1 : (c.toNat : Int) < 97 := by omega
    have f3 : ¬ (c.toNat : Int) < 65 := by omega
    have f4 : ¬ (90 : Int) < c.toNat := by omega
    have hk : okc c = true := by simp [okc, letter]; omega
    rw [hk, Bool.true_and] at hI
    (repeat' first
      | refine AWP.seq ?_
      | refine AWP.block ?_
      | (refine AWP.skip ?_; try dsimp only [thn, inBlk])
      | (refine AWP.exit ?_; try simp only [thn, inBlk, if_true, reduceIte, Nat.reduceEqDiff])
      | (refine AWP.ret ?_; try dsimp only [thn, inBlk])
      | (refine AWP.condT ?_ ?_; (focus (simp [go_sem, hjm', x1, w1, f1, f3, f4]; done)))
      | (refine AWP.condF ?_ ?_; (focus (simp [go_sem, hjm', x1, w1, f1, f3, f4]; done)))
      | (apply AWP.rE; (focus (simp [go_sem, hjm', x1, w1, f1, f3, f4]; exact ⟨rfl, rfl⟩)); try dsimp only [thn, inBlk])
      | fail)
    exact ⟨l.length - (j + 1), by omega, j + 1, by omega, rfl, by simp [go_sem], hI, rfl⟩
  have f3 : ¬ (c.toNat : Int) < 65 := by omega
  have f4 : (90 : Int) < c.toNat := by omega
  have f5 : ¬ (c.toNat : Int) < 48 := by omega
  have f6 : (57 : Int) < c.toNat := by omega
  by_cases a5 : c.toNat ≤ 96
  · have f1 : (c.toNat : Int) < 97 := by omega
    have nl : letter c = false := by simp [letter]; omega
    by_cases e1 : c = 45
    · have hk : okc c = true := by rw [e1]; decide
      rw [hk, Bool.true_and] at hI
      have e1' : ((c.toNat : Int) != 45) = false := by rw [e1]; decide
      (repeat' first
        | refine AWP.seq ?_
        | refine AWP.block ?_
        | (refine AWP.skip ?_; try dsimp only [thn, inBlk])
        | (refine AWP.exit ?_; try simp only [thn, inBlk, if_true, reduceIte, Nat.reduceEqDiff])
        | (refine AWP.ret ?_; try dsimp only [thn, inBlk])
        | (refine AWP.condT ?_ ?_; (focus (simp [go_sem, hjm', x1, w1, f1, f3, f4, f5, f6, e1']; done)))
        | (refine AWP.condF ?_ ?_; (focus (simp [go_sem, hjm', x1, w1, f1, f3, f4, f5, f6, e1']; done)))
        | (apply AWP.rE; (focus (simp [go_sem, hjm', x1, w1, f1, f3, f4, f5, f6, e1']; exact ⟨rfl, rfl⟩)); try dsimp only [thn, inBlk])
        | fail)
      exact ⟨l.length - (j + 1), by omega, j + 1, by omega, rfl, by simp [go_sem], hI, rfl⟩
    have e1' : ((c.toNat : Int) != 45) = true := by
      have := neB (d := 45) e1; simp at this ⊢; omega
    by_cases e2 : c = 46
    · have hk : okc c = true := by rw [e2]; decide
      rw [hk, Bool.true_and] at hI
      have e2' : ((c.toNat : Int) != 46) = false := by rw [e2]; decide
      (repeat' first
        | refine AWP.seq ?_
        | refine AWP.block ?_
        | (refine AWP.skip ?_; try dsimp only [thn, inBlk])
        | (refine AWP.exit ?_; try simp only [thn, inBlk, if_true, reduceIte, Nat.reduceEqDiff])
        | (refine AWP.ret ?_; try dsimp only [thn, inBlk])
        | (refine AWP.condT ?_ ?_; (focus (simp [go_sem, hjm', x1, w1, f1, f3, f4, f5, f6, e1', e2']; done)))
        | (refine AWP.condF ?_ ?_; (focus (simp [go_sem, hjm', x1, w1, f1, f3, f4, f5, f6, e1', e2']; done)))
        | (apply AWP.rE; (focus (simp [go_sem, hjm', x1, w1, f1, f3, f4, f5, f6, e1', e2']; exact ⟨rfl, rfl⟩)); try dsimp only [thn, inBlk])
        | fail)
      exact ⟨l.length - (j + 1), by omega, j + 1, by omega, rfl, by simp [go_sem], hI, rfl⟩
    have e2' : ((c.toNat : Int) != 46) = true := by
      have := neB (d := 46) e2; simp at this ⊢; omega
    by_cases e3 : c = 95
    · have hk : okc c = true := by rw [e3]; decide
      rw [hk, Bool.true_and] at hI
      have e3' : ((c.toNat : Int) != 95) = false := by rw [e3]; decide
      (repeat' first
        | refine AWP.seq ?_
        | refine AWP.block ?_
        | (refine AWP.skip ?_; try dsimp only [thn, inBlk])
        | (refine AWP.exit ?_; try simp only [thn, inBlk, if_true, reduceIte, Nat.reduceEqDiff])
        | (refine AWP.ret ?_; try dsimp only [thn, inBlk])
        | (refine AWP.condT ?_ ?_; (focus (simp [go_sem, hjm', x1, w1, f1, f3, f4, f5, f6, e1', e2', e3']; done)))
        | (refine AWP.condF ?_ ?_; (focus (simp [go_sem, hjm', x1, w1, f1, f3, f4, f5, f6, e1', e2', e3']; done)))
        | (apply AWP.rE; (focus (simp [go_sem, hjm', x1, w1, f1, f3, f4, f5, f6, e1', e2', e3']; exact ⟨rfl, rfl⟩)); try dsimp only [thn, inBlk])
        | fail)
      exact ⟨l.length - (j + 1), by omega, j + 1, by omega, rfl, by simp [go_sem], hI, rfl⟩
    have e3' : ((c.toNat : Int) != 95) = true := by
      have := neB (d := 95) e3; simp at this ⊢; omega
    have hk : okc c = false := by simp [okc, nl, e1, e2, e3]
    rw [hk, Bool.false_and] at hI
    have e : nm l = false := by rw [nm, hI]; rfl
    rw [e]
    (repeat' first
      | refine AWP.seq ?_
      | refine AWP.block ?_
      | (refine AWP.skip ?_; try dsimp only [thn, inBlk])
      | (refine AWP.exit ?_; try simp only [thn, inBlk, if_true, reduceIte, Nat.reduceEqDiff])
      | (refine AWP.ret ?_; try dsimp only [thn, inBlk])
      | (refine AWP.condT ?_ ?_; (focus (simp [go_sem, hjm', x1, w1, f1, f3, f4, f5, f6, e1', e2', e3']; done)))
      | (refine AWP.condF ?_ ?_; (focus (simp [go_sem, hjm', x1, w1, f1, f3, f4, f5, f6, e1', e2', e3']; done)))
      | (apply AWP.rE; (focus (simp [go_sem, hjm', x1, w1, f1, f3, f4, f5, f6, e1', e2', e3']; exact ⟨rfl, rfl⟩)); try dsimp only [thn, inBlk])
      | fail)
    simp [bodyQ, thn, inBlk, resA, resV, go_sem]
  have f1 : ¬ (c.toNat : Int) < 97 := by omega
  by_cases a6 : c.toNat ≤ 122
  · have f2 : ¬ (122 : Int) < c.toNat := by omega
    have hk : okc c = true := by simp [okc, letter]; omega
    rw [hk, Bool.true_and] at hI
    (repeat' first
      | refine AWP.seq ?_
      | refine AWP.block ?_
      | (refine AWP.skip ?_; try dsimp only [thn, inBlk])
      | (refine AWP.exit ?_; try simp only [thn, inBlk, if_true, reduceIte, Nat.reduceEqDiff])
      | (refine AWP.ret ?_; try dsimp only [thn, inBlk])
      | (refine AWP.condT ?_ ?_; (focus (simp [go_sem, hjm', x1, w1, f1, f2]; done)))
      | (refine AWP.condF ?_ ?_; (focus (simp [go_sem, hjm', x1, w1, f1, f2]; done)))
      | (apply AWP.rE; (focus (simp [go_sem, hjm', x1, w1, f1, f2]; exact ⟨rfl, rfl⟩)); try dsimp only [thn, inBlk])
      | fail)
    exact ⟨l.length - (j + 1), by omega, j + 1, by omega, rfl, by simp [go_sem], hI, rfl⟩
  · have f2 : (122 : Int) < c.toNat := by omega
    have nl : letter c = false := by simp [letter]; omega
    by_cases e1 : c = 45
    · have hk : okc c = true := by rw [e1]; decide
      rw [hk, Bool.true_and] at hI
      have e1' : ((c.toNat : Int) != 45) = false := by rw [e1]; decide
      (repeat' first
        | refine AWP.seq ?_
        | refine AWP.block ?_
        | (refine AWP.skip ?_; try dsimp only [thn, inBlk])
        | (refine AWP.exit ?_; try simp only [thn, inBlk, if_true, reduceIte, Nat.reduceEqDiff])
        | (refine AWP.ret ?_; try dsimp only [thn, inBlk])
        | (refine AWP.condT ?_ ?_; (focus (simp [go_sem, hjm', x1, w1, f1, f2, f3, f4, f5, f6, e1']; done)))
        | (refine AWP.condF ?_ ?_; (focus (simp [go_sem, hjm', x1, w1, f1, f2, f3, f4, f5, f6, e1']; done)))
        | (apply AWP.rE; (focus (simp [go_sem, hjm', x1, w1, f1, f2, f3, f4, f5, f6, e1']; exact ⟨rfl, rfl⟩)); try dsimp only [thn, inBlk])
        | fail)
      exact ⟨l.length - (j + 1), by omega, j + 1, by omega, rfl, by simp [go_sem], hI, rfl⟩
    have e1' : ((c.toNat : Int) != 45) = true := by
      have := neB (d := 45) e1; simp at this ⊢; omega
    by_cases e2 : c = 46
    · have hk : okc c = true := by rw [e2]; decide
      rw [hk, Bool.true_and] at hI
      have e2' : ((c.toNat : Int) != 46) = false := by rw [e2]; decide
      (repeat' first
        | refine AWP.seq ?_
        | refine AWP.block ?_
        | (refine AWP.skip ?_; try dsimp only [thn, inBlk])
        | (refine AWP.exit ?_; try simp only [thn, inBlk, if_true, reduceIte, Nat.reduceEqDiff])
        | (refine AWP.ret ?_; try dsimp only [thn, inBlk])
        | (refine AWP.condT ?_ ?_; (focus (simp [go_sem, hjm', x1, w1, f1, f2, f3, f4, f5, f6, e1', e2']; done)))
        | (refine AWP.condF ?_ ?_; (focus (simp [go_sem, hjm', x1, w1, f1, f2, f3, f4, f5, f6, e1', e2']; done)))
        | (apply AWP.rE; (focus (simp [go_sem, hjm', x1, w1, f1, f2, f3, f4, f5, f6, e1', e2']; exact ⟨rfl, rfl⟩)); try dsimp only [thn, inBlk])
        | fail)
      exact ⟨l.length - (j + 1), by omega, j + 1, by omega, rfl, by simp [go_sem], hI, rfl⟩
    have e2' : ((c.toNat : Int) != 46) = true := by
      have := neB (d := 46) e2; simp at this ⊢; omega
    by_cases e3 : c = 95
    · have hk : okc c = true := by rw [e3]; decide
      rw [hk, Bool.true_and] at hI
      have e3' : ((c.toNat : Int) != 95) = false := by rw [e3]; decide
      (repeat' first
        | refine AWP.seq ?_
        | refine AWP.block ?_
        | (refine AWP.skip ?_; try dsimp only [thn, inBlk])
        | (refine AWP.exit ?_; try simp only [thn, inBlk, if_true, reduceIte, Nat.reduceEqDiff])
        | (refine AWP.ret ?_; try dsimp only [thn, inBlk])
        | (refine AWP.condT ?_ ?_; (focus (simp [go_sem, hjm', x1, w1, f1, f2, f3, f4, f5, f6, e1', e2', e3']; done)))
        | (refine AWP.condF ?_ ?_; (focus (simp [go_sem, hjm', x1, w1, f1, f2, f3, f4, f5, f6, e1', e2', e3']; done)))
        | (apply AWP.rE; (focus (simp [go_sem, hjm', x1, w1, f1, f2, f3, f4, f5, f6, e1', e2', e3']; exact ⟨rfl, rfl⟩)); try dsimp only [thn, inBlk])
        | fail)
      exact ⟨l.length - (j + 1), by omega, j + 1, by omega, rfl, by simp [go_sem], hI, rfl⟩
    have e3' : ((c.toNat : Int) != 95) = true := by
      have := neB (d := 95) e3; simp at this ⊢; omega
    have hk : okc c = false := by simp [okc, nl, e1, e2, e3]
    rw [hk, Bool.false_and] at hI
    have e : nm l = false := by rw [nm, hI]; rfl
    rw [e]
    (repeat' first
      | refine AWP.seq ?_
      | refine AWP.block ?_
      | (refine AWP.skip ?_; try dsimp only [thn, inBlk])
      | (refine AWP.exit ?_; try simp only [thn, inBlk, if_true, reduceIte, Nat.reduceEqDiff])
      | (refine AWP.ret ?_; try dsimp only [thn, inBlk])
      | (refine AWP.condT ?_ ?_; (focus (simp [go_sem, hjm', x1, w1, f1, f2, f3, f4, f5, f6, e1', e2', e3']; done)))
      | (refine AWP.condF ?_ ?_; (focus (simp [go_sem, hjm', x1, w1, f1, f2, f3, f4, f5, f6, e1', e2', e3']; done)))
      | (apply AWP.rE; (focus (simp [go_sem, hjm', x1, w1, f1, f2, f3, f4, f5, f6, e1', e2', e3']; exact ⟨rfl, rfl⟩)); try dsimp only [thn, inBlk])
      | fail)
    simp [bodyQ, thn, inBlk, resA, resV, go_sem]
end L23
end

section
open Go Ab Go.Proofs
namespace L23
set_option autoImplicit false
set_option linter.unusedSimpArgs false
set_option linter.unusedVariables false

theorem splitB_at {l : List UInt8} {st i : Nat} (h1 : st ≤ i) (h2 : l[i]? = some 47) (hn : (47 : UInt8) ∉ (l.drop st).take (i - st)) : splitB (l.drop st) = (l.drop st).take (i - st) :: splitB (l.drop (i + 1)) := by
  have hil : i < l.length := (List.getElem?_eq_some_iff.1 h2).1
  have e : l.drop st = (l.drop st).take (i - st) ++ 47 :: l.drop (i + 1) := by
    have e1 : (l.drop st).drop (i - st) = 47 :: l.drop (i + 1) := by
      rw [List.drop_drop, show st + (i - st) = i by omega, List.drop_eq_getElem_cons hil]
      have := (List.getElem?_eq_some_iff.1 h2).2
      rw [this]
    rw [← e1, List.take_append_drop]
  conv => lhs; rw [e]
  rw [splitB_cut _ _ hn]
section
variable {O : Old} {h : AHeap} {R : List Chunk}
theorem txs_app {v : Value} {D : List (List UInt8)} {x : List UInt8} (k : Own O h (os 9 1 v (D.length + 1) (D.map T ++ [tx x]) :: R)) : Own O h (txs v (D ++ [x]) :: R) := by
  have e1 : (D ++ [x]).length = D.length + 1 := by simp
  have e2 : (D ++ [x]).map T = D.map T ++ [tx x] := by simp [T]
  show Own O h (os 9 1 v (D ++ [x]).length ((D ++ [x]).map T) :: R)
  rw [e1, e2]; exact k
set_option maxHeartbeats 8000000 in
theorem rsplit_calls {l : List UInt8} (k : Own O h R) (hm : l.length ≤ 100000) :
    ACalls Tryz.prog 84 #[tx l, .int .u8 47] h fun r h' => ∃ a cap, r = .slice a (splitB l).length cap ∧ Own O h' (txs (.slice a (splitB l).length cap) (splitB l) :: R) := by
  refine ACalls.of_awp (args := [tx l, .int .u8 47]) (n := 36) Tryz.func84 rfl rfl (by show 2 ≤ 36; omega) ?_
  have k1 : Own O _ (txs (.slice (some ⟨h.next, 0, none⟩) 0 0) [] :: R) := (k.push (.row [] 9 1 true false)).row_any (n := 0) rfl
  (repeat' first
    | refine AWP.seq ?_
    | refine AWP.block ?_
    | (refine AWP.skip ?_; try dsimp only [thn, inBlk])
    | (refine AWP.exit ?_; try simp only [thn, inBlk, if_true, reduceIte, Nat.reduceEqDiff])
    | (refine AWP.ret ?_; try dsimp only [thn, inBlk])
    | (refine AWP.condT ?_ ?_; (focus (simp [go_sem]; done)))
    | (refine AWP.condF ?_ ?_; (focus (simp [go_sem]; done)))
    | (apply AWP.rE; (focus (simp [go_sem]; exact ⟨rfl, rfl⟩)); try dsimp only [thn, inBlk])
    | fail)
  refine AWP.loopR [0, 1, 5, 6, 7] (fun m s h' => ∃ (i st : Nat) (a : Option Addr) (cap : Nat) (D : List (List UInt8)), i ≤ l.length + 1 ∧ m = l.length + 1 - i ∧ D.length ≤ i ∧ s = ⟨36, [(0, tx l), (1, .int .u8 47), (5, .slice a D.length cap), (6, .int .i64 st), (7, .int .i64 i)]⟩ ∧
      ((i ≤ l.length ∧ st ≤ i ∧ splitB l = D ++ splitB (l.drop st) ∧ (47 : UInt8) ∉ (l.drop st).take (i - st)) ∨ (i = l.length + 1 ∧ D = splitB l)) ∧ Own O h' (txs (.slice a D.length cap) D :: R)) ?_ ?_
  · exact ⟨_, 0, 0, some ⟨h.next, 0, none⟩, 0, [], by omega, rfl, by simp, by simp [go_sem], .inl ⟨by omega, by omega, by simp, by simp⟩, k1⟩
  rintro m s hB ⟨i, st, a, cap, D, hi, rfl, hDl, rfl, hinv, kB⟩
  rcases hinv with ⟨hil, hst, hs, hn⟩ | ⟨rfl, rfl⟩
  rotate_left
  · have hi' : ¬ ((l.length + 1 : Nat) : Int) ≤ l.length := by omega
    obtain ⟨q, hq⟩ : ∃ q, q = l.length + 1 := ⟨_, rfl⟩
    rw [← hq] at hi' ⊢
    (repeat' first
      | refine AWP.seq ?_
      | refine AWP.block ?_
      | (refine AWP.skip ?_; try dsimp only [thn, inBlk])
      | (refine AWP.exit ?_; try simp only [thn, inBlk, if_true, reduceIte, Nat.reduceEqDiff])
      | (refine AWP.ret ?_; try dsimp only [thn, inBlk])
      | (refine AWP.condT ?_ ?_; (focus (simp [go_sem, hi']; done)))
      | (refine AWP.condF ?_ ?_; (focus (simp [go_sem, hi']; done)))
      | (apply AWP.rE; (focus (simp [go_sem, hi']; exact ⟨rfl, rfl⟩)); try dsimp only [thn, inBlk])
      | fail)
    simp [bodyQ, thn, inBlk, resA, resV, go_sem]
    exact ⟨a, cap, ⟨rfl, rfl⟩, kB⟩
  have hil' : (i : Int) ≤ l.length := by omega
  obtain ⟨p, hp⟩ : ∃ p, p = i + 1 := ⟨_, rfl⟩
  have w1 : IntKind.i64.wrap ((i : Int) + 1) = (p : Int) := by rw [wI64 (by omega) (by omega)]; omega
  have s1 : ∀ hh, sliceR Tryz.prog hh 9 (tx l) (some (.int .i64 (st : Int))) (some (.int .i64 (i : Int))) none = some (tx ((l.drop st).take (i - st))) := fun hh => by
    rw [← List.drop_take]
    exact str_slice (P := Tryz.prog) (h := hh) Tryz.underlying9 (l := l) (lo := st) (hi := i) (a := some (.int .i64 (st : Int))) (u := some (.int .i64 (i : Int))) hst hil (.inr ⟨.i64, rfl⟩) (.inr ⟨.i64, rfl⟩)
  obtain ⟨x, hx⟩ : ∃ x, x = (l.drop st).take (i - st) := ⟨_, rfl⟩
  obtain ⟨na, nc, h7, e7, k7⟩ := Own.appN (P := Tryz.prog) (t := 71) (xt := 71) (m := 1) (xs := [tx x]) (i := hB.next) Tryz.underlying71 tsz9 tby9 tz9 nI71 (by omega) (by omega) (by rfl) kB rfl rfl rfl (by omega)
  have k8 := txs_app k7
  have hDl2 : (D ++ [x]).length = D.length + 1 := by simp
  simp only [← hx] at s1
  by_cases hil2 : i = l.length
  · have hil2' : ((i : Int) == l.length) = true := by rw [hil2]; simp
    have hfin : D ++ [x] = splitB l := by
      rw [hs, hx, hil2]
      have e : (l.drop st).take (l.length - st) = l.drop st := List.take_of_length_le (by simp)
      rw [hil2, e] at hn
      rw [e, splitB_one (l.drop st) (List.count_eq_zero.2 hn)]
    (repeat' first
      | refine AWP.seq ?_
      | refine AWP.block ?_
      | (refine AWP.skip ?_; try dsimp only [thn, inBlk])
      | (refine AWP.exit ?_; try simp only [thn, inBlk, if_true, reduceIte, Nat.reduceEqDiff])
      | (refine AWP.ret ?_; try dsimp only [thn, inBlk])
      | (refine AWP.condT ?_ ?_; (focus (simp [go_sem, hil', hil2', s1, e7, w1]; done)))
      | (refine AWP.condF ?_ ?_; (focus (simp [go_sem, hil', hil2', s1, e7, w1]; done)))
      | (apply AWP.rE; (focus (simp [go_sem, hil', hil2', s1, e7, w1]; exact ⟨rfl, rfl⟩)); try dsimp only [thn, inBlk])
      | fail)
    exact ⟨l.length + 1 - p, by omega, p, p, na, nc, D ++ [x], by omega, rfl, by omega, by rw [hDl2]; simp [go_sem], .inr ⟨by omega, hfin⟩, by rw [hDl2]; exact k8⟩
  have hlt : i < l.length := by omega
  have hil2' : ((i : Int) == l.length) = false := by simp; omega
  have x1 : indexP Tryz.prog 9 (tx l) (.int .i64 (i : Int)) = some (.int .u8 l[i].toNat) := str_index Tryz.underlying9 hlt
  have hci : l[i]? = some l[i] := List.getElem?_eq_getElem hlt
  generalize l[i] = c at x1 hci
  by_cases h47 : c = 47
  · have h47' : ((c.toNat : Int) == 47) = true := by rw [h47]; rfl
    rw [h47] at hci
    have hsp := splitB_at hst hci hn
    (repeat' first
      | refine AWP.seq ?_
      | refine AWP.block ?_
      | (refine AWP.skip ?_; try dsimp only [thn, inBlk])
      | (refine AWP.exit ?_; try simp only [thn, inBlk, if_true, reduceIte, Nat.reduceEqDiff])
      | (refine AWP.ret ?_; try dsimp only [thn, inBlk])
      | (refine AWP.condT ?_ ?_; (focus (simp [go_sem, hil', hil2', x1, h47', s1, e7, w1]; done)))
      | (refine AWP.condF ?_ ?_; (focus (simp [go_sem, hil', hil2', x1, h47', s1, e7, w1]; done)))
      | (apply AWP.rE; (focus (simp [go_sem, hil', hil2', x1, h47', s1, e7, w1]; exact ⟨rfl, rfl⟩)); try dsimp only [thn, inBlk])
      | fail)
    refine ⟨l.length + 1 - p, by omega, p, p, na, nc, D ++ [x], by omega, rfl, by omega, by rw [hDl2]; simp [go_sem], .inl ⟨by omega, by omega, ?_, by simp⟩, by rw [hDl2]; exact k8⟩
    rw [hs, hsp, hx, hp]; simp
  · have h47' : ((c.toNat : Int) == 47) = false := neI h47
    (repeat' first
      | refine AWP.seq ?_
      | refine AWP.block ?_
      | (refine AWP.skip ?_; try dsimp only [thn, inBlk])
      | (refine AWP.exit ?_; try simp only [thn, inBlk, if_true, reduceIte, Nat.reduceEqDiff])
      | (refine AWP.ret ?_; try dsimp only [thn, inBlk])
      | (refine AWP.condT ?_ ?_; (focus (simp [go_sem, hil', hil2', x1, h47', w1]; done)))
      | (refine AWP.condF ?_ ?_; (focus (simp [go_sem, hil', hil2', x1, h47', w1]; done)))
      | (apply AWP.rE; (focus (simp [go_sem, hil', hil2', x1, h47', w1]; exact ⟨rfl, rfl⟩)); try dsimp only [thn, inBlk])
      | fail)
    refine ⟨l.length + 1 - p, by omega, p, st, a, cap, D, by omega, rfl, by omega, by simp [go_sem], .inl ⟨by omega, by omega, hs, ?_⟩, kB⟩
    rw [hp, show i + 1 - st = (i - st) + 1 by omega, List.take_add_one, List.getElem?_drop, show st + (i - st) = i by omega, hci]
    simp only [Option.toList_some, List.mem_append, List.mem_singleton, not_or]
    exact ⟨hn, fun e => h47 e.symm⟩
set_option maxHeartbeats 8000000 in
theorem rpath_calls {l : List UInt8} (k : Own O h R) (hm : l.length ≤ 100000) :
    ACalls Tryz.prog 63 #[tx l] h fun r h' => r = .bool (pathB l) ∧ Own O h' R := by
  refine ACalls.of_awp (args := [tx l]) (n := 33) Tryz.func63 rfl rfl (by show 1 ≤ 33; omega) ?_
  by_cases h1 : l = [47]
  · subst h1
    (repeat' first
      | refine AWP.seq ?_
      | refine AWP.block ?_
      | (refine AWP.skip ?_; try dsimp only [thn, inBlk])
      | (refine AWP.exit ?_; try simp only [thn, inBlk, if_true, reduceIte, Nat.reduceEqDiff])
      | (refine AWP.ret ?_; try dsimp only [thn, inBlk])
      | (refine AWP.condT ?_ ?_; (focus (simp [go_sem]; done)))
      | (refine AWP.condF ?_ ?_; (focus (simp [go_sem]; done)))
      | (apply AWP.rE; (focus (simp [go_sem]; exact ⟨rfl, rfl⟩)); try dsimp only [thn, inBlk])
      | fail)
    simp [bodyQ, thn, inBlk, resA, resV, go_sem]
    exact ⟨rfl, k⟩
  have h1' : (l == [47]) = false := by simpa using h1
  by_cases h2 : l.length < 2
  · have h2' : (l.length : Int) < 2 := by omega
    have e : pathB l = false := by
      rcases l with _ | ⟨c, _ | ⟨d, l⟩⟩
      · rfl
      · have hc : c ≠ 47 := fun e => h1 (by rw [e])
        simp [pathB, cut47, hc]
      · simp at h2; omega
    rw [e]
    (repeat' first
      | refine AWP.seq ?_
      | refine AWP.block ?_
      | (refine AWP.skip ?_; try dsimp only [thn, inBlk])
      | (refine AWP.exit ?_; try simp only [thn, inBlk, if_true, reduceIte, Nat.reduceEqDiff])
      | (refine AWP.ret ?_; try dsimp only [thn, inBlk])
      | (refine AWP.condT ?_ ?_; (focus (simp [go_sem, h1', h2']; done)))
      | (refine AWP.condF ?_ ?_; (focus (simp [go_sem, h1', h2']; done)))
      | (apply AWP.rE; (focus (simp [go_sem, h1', h2']; exact ⟨rfl, rfl⟩)); try dsimp only [thn, inBlk])
      | fail)
    simp [bodyQ, thn, inBlk, resA, resV, go_sem]
    exact k
  have h2' : ¬ (l.length : Int) < 2 := by omega
  obtain ⟨c, t, rfl⟩ : ∃ c t, l = c :: t := by
    rcases l with _ | ⟨c, t⟩
    · simp at h2
    · exact ⟨c, t, rfl⟩
  have x0 : indexP Tryz.prog 9 (tx (c :: t)) (.int .i64 0) = some (.int .u8 c.toNat) := str_index (j := 0) Tryz.underlying9 (by simp)
  by_cases h3 : c = 47
  rotate_left
  · have h3' : ((c.toNat : Int) != 47) = true := by have := neB (d := 47) h3; simp at this ⊢; omega
    have e : pathB (c :: t) = false := by simp [pathB, cut47, h3, h1]
    rw [e]
    generalize c :: t = l at *
    (repeat' first
      | refine AWP.seq ?_
      | refine AWP.block ?_
      | (refine AWP.skip ?_; try dsimp only [thn, inBlk])
      | (refine AWP.exit ?_; try simp only [thn, inBlk, if_true, reduceIte, Nat.reduceEqDiff])
      | (refine AWP.ret ?_; try dsimp only [thn, inBlk])
      | (refine AWP.condT ?_ ?_; (focus (simp [go_sem, h1', h2', x0, h3']; done)))
      | (refine AWP.condF ?_ ?_; (focus (simp [go_sem, h1', h2', x0, h3']; done)))
      | (apply AWP.rE; (focus (simp [go_sem, h1', h2', x0, h3']; exact ⟨rfl, rfl⟩)); try dsimp only [thn, inBlk])
      | fail)
    simp [bodyQ, thn, inBlk, resA, resV, go_sem]
    exact k
  have h3' : ((c.toNat : Int) != 47) = false := by rw [h3]; rfl
  have hpb : pathB (c :: t) = (decide ((splitB t).length ≤ 6) && (splitB t).all nm) := by
    rw [h3] at h1 ⊢
    have : (47 :: t == [47]) = false := by simpa using h1
    simp [pathB, cut47, this]
  have s1 : ∀ hh, sliceR Tryz.prog hh 9 (tx (c :: t)) (some (.int .i64 1)) none none = some (tx t) := fun hh => by
    have := str_slice (P := Tryz.prog) (h := hh) Tryz.underlying9 (l := c :: t) (lo := 1) (hi := (c :: t).length) (a := some (.int .i64 1)) (u := none) (by simp) (by simp) (.inr ⟨.i64, rfl⟩) (.inl ⟨rfl, rfl⟩)
    rw [this]; simp
  have htl : t.length ≤ 100000 := by simp at hm; omega
  rw [hpb]
  generalize c :: t = l at *
  (repeat' first
    | refine AWP.seq ?_
    | refine AWP.block ?_
    | (refine AWP.skip ?_; try dsimp only [thn, inBlk])
    | (refine AWP.exit ?_; try simp only [thn, inBlk, if_true, reduceIte, Nat.reduceEqDiff])
    | (refine AWP.ret ?_; try dsimp only [thn, inBlk])
    | (refine AWP.condT ?_ ?_; (focus (simp [go_sem, h1', h2', x0, h3']; done)))
    | (refine AWP.condF ?_ ?_; (focus (simp [go_sem, h1', h2', x0, h3']; done)))
    | (apply AWP.rE; (focus (simp [go_sem, h1', h2', x0, h3']; exact ⟨rfl, rfl⟩)); try dsimp only [thn, inBlk])
    | fail)
  refine AWP.callE (by simp [go_sem, s1]; exact ⟨rfl, rfl, rfl, rfl, rfl⟩) (by kernel_rfl) ?_
  refine (rsplit_calls (l := t) k htl).mono ?_
  rintro r h2 ⟨a, cap, rfl, k2⟩
  have hsl := splitB_length t
  have hct : t.count 47 ≤ t.length := List.count_le_length
  have hms : ∀ x ∈ splitB t, x.length ≤ 1000000 := fun x hx => by have := splitB_short t x hx; omega
  generalize hS : splitB t = S at *
  refine awpL_restE (by simp [go_sem]; exact ⟨rfl, rfl⟩) ?_; try dsimp only [thn, inBlk]
  (repeat' first
    | refine AWP.seq ?_
    | refine AWP.block ?_
    | (refine AWP.skip ?_; try dsimp only [thn, inBlk])
    | (refine AWP.exit ?_; try simp only [thn, inBlk, if_true, reduceIte, Nat.reduceEqDiff])
    | (refine AWP.ret ?_; try dsimp only [thn, inBlk])
    | (refine AWP.condT ?_ ?_; (focus (simp [go_sem]; done)))
    | (refine AWP.condF ?_ ?_; (focus (simp [go_sem]; done)))
    | (apply AWP.rE; (focus (simp [go_sem]; exact ⟨rfl, rfl⟩)); try dsimp only [thn, inBlk])
    | fail)
  refine AWP.loopR [3, 4] (fun m s h' => ∃ j : Nat, j ≤ S.length ∧ m = S.length - j ∧ s = ⟨33, [(3, .slice a S.length cap), (4, .int .i64 j)]⟩ ∧ (S.all nm = (S.drop j).all nm) ∧ h' = h2) ?_ ?_
  · exact ⟨_, 0, by omega, rfl, by simp [go_sem], rfl, rfl⟩
  rintro m s hX ⟨j, hj, rfl, rfl, hI, rfl⟩
  by_cases hjm : j < S.length
  rotate_left
  · have hjm' : ¬ (j : Int) < S.length := by omega
    have ha : S.all nm = true := by rw [hI, List.drop_eq_nil_iff.2 (by omega)]; rfl
    rw [ha, Bool.and_true]
    (repeat' first
      | refine AWP.seq ?_
      | refine AWP.block ?_
      | (refine AWP.skip ?_; try dsimp only [thn, inBlk])
      | (refine AWP.exit ?_; try simp only [thn, inBlk, if_true, reduceIte, Nat.reduceEqDiff])
      | (refine AWP.ret ?_; try dsimp only [thn, inBlk])
      | (refine AWP.condT ?_ ?_; (focus (simp [go_sem, hjm']; done)))
      | (refine AWP.condF ?_ ?_; (focus (simp [go_sem, hjm']; done)))
      | (apply AWP.rE; (focus (simp [go_sem, hjm']; exact ⟨rfl, rfl⟩)); try dsimp only [thn, inBlk])
      | fail)
    simp [bodyQ, thn, inBlk, resA, resV, go_sem]
    exact ⟨by omega, k2.tail⟩
  have hjm' : (j : Int) < S.length := by omega
  have hgj : (S.map Ab.T)[j]? = some (tx S[j]) := by simp [hjm, Ab.T]
  have hsj := hms _ (List.getElem_mem hjm)
  have hdr : S.drop j = S[j] :: S.drop (j + 1) := List.drop_eq_getElem_cons hjm
  obtain ⟨b1, o1, c1, _, _, _, _, p1, q1, r1⟩ := k2.os_sl.at1 (P := Tryz.prog) (t := 71) Tryz.underlying71 tsz9 hjm hgj (kd := .i64)
  generalize S[j] = x at *
  rw [hdr, List.all_cons] at hI
  have w1 : IntKind.i64.wrap ((j : Int) + 1) = ((j + 1 : Nat) : Int) := by rw [wI64 (by omega) (by omega)]; omega
  (repeat' first
    | refine AWP.seq ?_
    | refine AWP.block ?_
    | (refine AWP.skip ?_; try dsimp only [thn, inBlk])
    | (refine AWP.exit ?_; try simp only [thn, inBlk, if_true, reduceIte, Nat.reduceEqDiff])
    | (refine AWP.ret ?_; try dsimp only [thn, inBlk])
    | (refine AWP.condT ?_ ?_; (focus (simp [go_sem, hjm']; done)))
    | (refine AWP.condF ?_ ?_; (focus (simp [go_sem, hjm']; done)))
    | (apply AWP.rE; (focus (simp [go_sem, hjm']; exact ⟨rfl, rfl⟩)); try dsimp only [thn, inBlk])
    | fail)
  refine AWP.callE (by simp [go_sem, p1, q1, r1]; exact ⟨rfl, rfl, rfl, rfl, rfl⟩) (by kernel_rfl) ?_
  refine (rname_calls (l := x) hsj).mono ?_
  rintro r h3 ⟨rfl, rfl⟩
  cases hx : nm x
  · rw [hx, Bool.false_and] at hI
    rw [hI, Bool.and_false]
    refine awpL_restE (by simp [go_sem]; exact ⟨rfl, rfl⟩) ?_; try dsimp only [thn, inBlk]
    (repeat' first
      | refine AWP.seq ?_
      | refine AWP.block ?_
      | (refine AWP.skip ?_; try dsimp only [thn, inBlk])
      | (refine AWP.exit ?_; try simp only [thn, inBlk, if_true, reduceIte, Nat.reduceEqDiff])
      | (refine AWP.ret ?_; try dsimp only [thn, inBlk])
      | (refine AWP.condT ?_ ?_; (focus (simp [go_sem]; done)))
      | (refine AWP.condF ?_ ?_; (focus (simp [go_sem]; done)))
      | (apply AWP.rE; (focus (simp [go_sem]; exact ⟨rfl, rfl⟩)); try dsimp only [thn, inBlk])
      | fail)
    simp [bodyQ, thn, inBlk, resA, resV, go_sem]
    exact k2.tail
  · rw [hx, Bool.true_and] at hI
    refine awpL_restE (by simp [go_sem]; exact ⟨rfl, rfl⟩) ?_; try dsimp only [thn, inBlk]
    (repeat' first
      | refine AWP.seq ?_
      | refine AWP.block ?_
      | (refine AWP.skip ?_; try dsimp only [thn, inBlk])
      | (refine AWP.exit ?_; try simp only [thn, inBlk, if_true, reduceIte, Nat.reduceEqDiff])
      | (refine AWP.ret ?_; try dsimp only [thn, inBlk])
      | (refine AWP.condT ?_ ?_; (focus (simp [go_sem, w1]; done)))
      | (refine AWP.condF ?_ ?_; (focus (simp [go_sem, w1]; done)))
      | (apply AWP.rE; (focus (simp [go_sem, w1]; exact ⟨rfl, rfl⟩)); try dsimp only [thn, inBlk])
      | fail)
    exact ⟨S.length - (j + 1), by omega, j + 1, by omega, rfl, by simp [go_sem], hI, rfl⟩
end
end L23
end

