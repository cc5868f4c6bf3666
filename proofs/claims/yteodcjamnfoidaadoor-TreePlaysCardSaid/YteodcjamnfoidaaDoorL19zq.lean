import Derived.Test.YteodcjamnfoidaaDoorL19zp
open Go Ab Go.Proofs
namespace L19
set_option autoImplicit false
set_option linter.unusedSimpArgs false
set_option linter.unusedVariables false

/-! ### The document's nodes are the program's -/
abbrev ltN (a b : List UInt8 × Nd) : Prop := a.1 < b.1
theorem rise_eq : ∀ {a b : TL}, a.Pairwise ltN → b.Pairwise ltN → (∀ x, x ∈ a ↔ x ∈ b) → a = b
  | [], [], _, _, _ => rfl
  | [], y :: b, _, _, h => absurd ((h y).2 (by simp)) (by simp)
  | x :: a, [], _, _, h => absurd ((h x).1 (by simp)) (by simp)
  | x :: a, y :: b, ha, hb, h => by
    rw [List.pairwise_cons] at ha hb
    have hxy : x = y := by
      rcases List.mem_cons.1 ((h x).1 (by simp)) with e | e
      · exact e
      · rcases List.mem_cons.1 ((h y).2 (by simp)) with e2 | e2
        · exact e2.symm
        · exact absurd (hb.1 x e) (List.lt_asymm (ha.1 y e2))
    subst hxy
    rw [rise_eq ha.2 hb.2 fun z => ?_]
    have nx : ∀ {l : TL}, (∀ z ∈ l, ltN x z) → x ∉ l := fun hl hm => List.lt_irrefl _ (hl x hm)
    have hz := h z
    simp only [List.mem_cons] at hz
    by_cases e : z = x
    · subst e; exact ⟨fun q => absurd q (nx ha.1), fun q => absurd q (nx hb.1)⟩
    · simpa [e] using hz
structure RT (T xs : TL) : Prop where
  so : xs.Pairwise ltN
  me : ∀ x, x ∈ xs ↔ x ∈ T
section
variable {T xs : TL}
theorem RT.nodes (h : RT T xs) (hT : TS T) : xs = nodesL T := by
  have nl := nodes_NL hT.toTI
  exact rise_eq h.so nl.srt fun x => ⟨fun q => nl.inn x ((h.me x).1 q), fun q => (h.me x).2 (nl.mem x q)⟩
theorem RT.nd (h : RT T xs) : (xs.map (·.1)).Nodup := by
  have h1 : (xs.map (·.1)).Pairwise (· < ·) := by rw [List.pairwise_map]; exact h.so
  exact h1.imp fun {a b} q e => by rw [e] at q; exact List.lt_irrefl _ q
theorem RT.perm (h : RT T xs) (hT : TS T) : xs.Perm T :=
  (List.perm_ext_iff_of_nodup (nodup_of_map h.nd) (nodup_of_map hT.nd)).2 h.me
theorem RT.len (h : RT T xs) (hT : TS T) : xs.length = T.length := (h.perm hT).length_eq
theorem RT.get (h : RT T xs) (hT : TS T) (p : List UInt8) : L19.get xs p = L19.get T p := by
  cases hg : L19.get T p with
  | none =>
    cases hx : L19.get xs p with
    | none => rfl
    | some n => exact absurd rfl (get_none hg _ ((h.me _).1 (mem_of_get hx)))
  | some n => exact get_of_mem h.nd ((h.me _).2 (mem_of_get hg))
theorem comeF_congr (hg : ∀ p, L19.get xs p = L19.get T p) (who p : List UInt8) : ∀ n i, comeF xs who p n i = comeF T who p n i
  | 0, _ => rfl
  | n + 1, i => by
    rw [comeF, comeF, hg]
    simp only [comeF_congr hg who p n]
theorem RT.come (h : RT T xs) (hT : TS T) (who p : List UInt8) : comeE xs who p = comeE T who p := by
  unfold comeE; rw [comeF_congr (h.get hT)]
theorem RT.find (h : RT T xs) (hT : TS T) (who p : List UInt8) : findE xs who p = findE T who p := by
  unfold findE; rw [h.come hT, h.get hT]
theorem RT.read (h : RT T xs) (hT : TS T) (who p : List UInt8) : rdR xs who p = rdR T who p := by
  unfold rdR; rw [h.find hT, h.get hT]
theorem RT.ls (h : RT T xs) (hT : TS T) (who p : List UInt8) : lsE xs who p = lsE T who p := by
  unfold lsE; rw [h.find hT, h.get hT]
theorem RT.kids (h : RT T xs) (hT : TS T) (q : List UInt8) : (L19.kids xs q).Perm (L19.kids T q) := by
  unfold L19.kids
  exact (((h.perm hT).map _).filter _).map _
theorem RT.rx (h : RT T xs) (hT : TS T) : RX xs := ⟨fun x hx => hT.md x ((h.me x).1 hx), by rw [h.len hT]; have := hT.mx; omega⟩
theorem RT.pa (h : RT T xs) (hT : TS T) : ∀ x ∈ xs, pathB x.1 = true ∧ x.1.length ≤ 100000 := fun x hx => ⟨hT.pa x ((h.me x).1 hx), by have := hT.ps x ((h.me x).1 hx); omega⟩
theorem RT.dl (h : RT T xs) (hT : TS T) : ∀ x ∈ xs, x.2.data.length ≤ 1000 := fun x hx => hT.dl x ((h.me x).1 hx)
theorem RT.tp (h : RT T xs) (hT : TS T) : ∃ nd, L19.get xs [47] = some nd := by rw [h.get hT]; exact hT.tp
/-- A node is put. -/
theorem mem_insX {e x : List UInt8 × Nd} : ∀ {xs : TL}, x ∈ insX e xs ↔ x = e ∨ x ∈ xs
  | [] => by simp [insX]
  | y :: ys => by
    rw [insX]
    split
    · simp
    · rw [List.mem_cons, mem_insX, List.mem_cons]
      constructor <;> (intro h; rcases h with h | h | h <;> simp [h])
theorem insX_so {e : List UInt8 × Nd} : ∀ {xs : TL}, xs.Pairwise ltN → (∀ x ∈ xs, x.1 ≠ e.1) → (insX e xs).Pairwise ltN
  | [], _, _ => by simp [insX]
  | y :: ys, h, hn => by
    rw [List.pairwise_cons] at h
    rw [insX]
    split
    · rename_i hlt
      rw [List.pairwise_cons, List.pairwise_cons]
      refine ⟨fun z hz => ?_, h⟩
      rcases List.mem_cons.1 hz with rfl | hz
      · exact hlt
      · exact List.lt_trans hlt (h.1 z hz)
    · rename_i hlt
      rw [List.pairwise_cons]
      refine ⟨fun z hz => ?_, insX_so h.2 fun x hx => hn x (by simp [hx])⟩
      rcases mem_insX.1 hz with rfl | hz
      · rcases lt_trich z.1 y.1 with q | q | q
        · exact absurd q hlt
        · exact absurd q.symm (hn y (by simp))
        · exact q
      · exact h.1 z hz
theorem RT.ins (h : RT T xs) (hT : TS T) {p : List UInt8} {n : Nd} (hg : L19.get T p = none) : RT (T ++ [(p, n)]) (insX (p, n) xs) := by
  refine ⟨insX_so h.so fun x hx e => get_none hg x ((h.me x).1 hx) e, fun x => ?_⟩
  rw [mem_insX, List.mem_append, List.mem_singleton, h.me]
  exact ⟨fun q => q.symm, fun q => q.symm⟩
theorem RT.putE (h : RT T xs) (hT : TS T) (p : List UInt8) (n : Nd) : L19.putE xs p n = L19.putE T p n := by
  unfold L19.putE; rw [h.get hT, h.len hT]
/-- A node is set. -/
theorem keys_setN {p : List UInt8} {n : Nd} : (setN T p n).map (·.1) = T.map (·.1) := by
  unfold setN
  split
  · rename_i j hj
    rw [List.findIdx?_eq_some_iff_getElem] at hj
    obtain ⟨h1, h2, _⟩ := hj
    rw [List.map_set]
    apply List.ext_getElem?
    intro k
    rw [List.getElem?_set]
    split
    · rename_i e; subst e
      rw [if_pos (by simpa using h1), List.getElem?_map, List.getElem?_eq_getElem h1]
      have : T[j].1 = p := by simpa using h2
      simp [this]
    · rfl
  · rfl
theorem mem_setN {p : List UInt8} {n nd : Nd} {x : List UInt8 × Nd} (hn : (T.map (·.1)).Nodup) (hg : L19.get T p = some nd) : x ∈ setN T p n ↔ x = (p, n) ∨ (x ∈ T ∧ x.1 ≠ p) := by
  obtain ⟨j, hj, hjf⟩ := findIdx_get hg
  have hjl : j < T.length := (List.getElem?_eq_some_iff.1 hj).1
  have e : setN T p n = T.set j (p, n) := by simp only [setN, hjf]
  rw [e]
  constructor
  · intro hx
    obtain ⟨k, hk⟩ := List.mem_iff_getElem?.1 hx
    rw [List.getElem?_set] at hk
    split at hk
    · exact .inl (Option.some.inj hk).symm
    · rename_i hjk
      refine .inr ⟨List.mem_of_getElem? hk, fun q => hjk ?_⟩
      have e1 : (T.map (·.1))[j]? = some p := by rw [List.getElem?_map, hj]; rfl
      have e2 : (T.map (·.1))[k]? = some p := by rw [List.getElem?_map, hk]; simp [q]
      exact (List.getElem?_inj (by simpa using hjl) hn).1 (e1.trans e2.symm)
  · rintro (rfl | ⟨hx, hne⟩)
    · exact List.mem_of_getElem? (i := j) (by rw [List.getElem?_set_self hjl])
    · obtain ⟨k, hk⟩ := List.mem_iff_getElem?.1 hx
      refine List.mem_of_getElem? (i := k) ?_
      rw [List.getElem?_set_ne (fun q => ?_)]
      · exact hk
      · subst q; rw [hj] at hk; cases hk; exact hne rfl
theorem RT.set (h : RT T xs) (hT : TS T) {p : List UInt8} {n nd : Nd} (hg : L19.get T p = some nd) : RT (setN T p n) (setN xs p n) := by
  refine ⟨?_, fun x => ?_⟩
  · have h1 : ((setN xs p n).map (·.1)).Pairwise (· < ·) := by rw [keys_setN, List.pairwise_map]; exact h.so
    rw [List.pairwise_map] at h1; exact h1
  · rw [mem_setN h.nd (by rw [h.get hT]; exact hg), mem_setN hT.nd hg, h.me]
theorem mem_rmT {p : List UInt8} {nd : Nd} {x : List UInt8 × Nd} (hn : (T.map (·.1)).Nodup) (hg : L19.get T p = some nd) : x ∈ rmT T p ↔ x ∈ T ∧ x.1 ≠ p := by
  obtain ⟨j, hj, hjf⟩ := findIdx_get hg
  have hjl : j < T.length := (List.getElem?_eq_some_iff.1 hj).1
  have e : rmT T p = T.eraseIdx j := by simp only [rmT, hjf]
  rw [e, List.mem_eraseIdx_iff_getElem?]
  constructor
  · rintro ⟨k, hk, hkx⟩
    refine ⟨List.mem_of_getElem? hkx, fun q => hk ?_⟩
    have e1 : (T.map (·.1))[j]? = some p := by rw [List.getElem?_map, hj]; rfl
    have e2 : (T.map (·.1))[k]? = some p := by rw [List.getElem?_map, hkx]; simp [q]
    exact ((List.getElem?_inj (by simpa using hjl) hn).1 (e1.trans e2.symm)).symm
  · rintro ⟨hm, hne⟩
    obtain ⟨k, hk⟩ := List.mem_iff_getElem?.1 hm
    refine ⟨k, ?_, hk⟩
    rintro rfl
    rw [hj] at hk; cases hk; exact hne rfl
theorem RT.rm (h : RT T xs) (hT : TS T) {p : List UInt8} {nd : Nd} (hg : L19.get T p = some nd) : RT (rmT T p) (rmT xs p) := by
  refine ⟨?_, fun x => ?_⟩
  · unfold rmT
    split
    · exact h.so.sublist (List.eraseIdx_sublist _ _)
    · exact h.so
  · rw [mem_rmT h.nd (by rw [h.get hT]; exact hg), mem_rmT hT.nd hg, h.me]
/-- The calls. -/
theorem RT.mkdir (h : RT T xs) (hT : TS T) (who p : List UInt8) (z : Int) : (mkR xs who p z).1 = (mkR T who p z).1 ∧ RT (mkR T who p z).2 (mkS xs who p z) := by
  have e1 : (mkR xs who p z).1 = (mkR T who p z).1 := by
    unfold mkR
    rw [h.come hT, h.get hT]
    split
    · split
      · rfl
      · split
        · rfl
        · dsimp only; rw [h.putE hT]
    · rfl
  refine ⟨e1, ?_⟩
  unfold mkS
  rw [e1]
  unfold mkR
  by_cases hc : comeE T who p = 0
  rotate_left
  · rw [if_neg hc, if_neg hc]; exact h
  rw [if_pos hc]
  by_cases hr : rightB z = false
  · rw [if_pos hr, if_neg (by simp)]; exact h
  rw [if_neg hr]
  cases hg : L19.get T p with
  | some n => dsimp only; rw [if_neg (by simp)]; exact h
  | none =>
    dsimp only
    by_cases hp : L19.putE T p ⟨true, who, z.toNat, []⟩ = 0
    · rw [if_pos hp]; unfold putT; rw [if_pos hp]; exact h.ins hT hg
    · rw [if_neg hp]; unfold putT; rw [if_neg hp]; exact h
theorem RT.write (h : RT T xs) (hT : TS T) (who p d : List UInt8) (z : Int) : (wrR xs who p d z).1 = (wrR T who p d z).1 ∧ RT (wrR T who p d z).2 (wrS xs who p d z) := by
  have e1 : (wrR xs who p d z).1 = (wrR T who p d z).1 := by
    unfold wrR
    rw [h.come hT, h.get hT]
    split
    · split
      · rfl
      · split
        · rfl
        · split
          · dsimp only; rw [h.putE hT]
          · split
            · rfl
            · split <;> rfl
    · rfl
  refine ⟨e1, ?_⟩
  unfold wrS
  rw [h.get hT, e1]
  unfold wrR
  rw [h.come hT, h.get hT]
  by_cases hc : comeE T who p = 0
  rotate_left
  · simp only [if_neg hc]
    cases L19.get T p <;> exact h
  simp only [if_pos hc]
  by_cases hr : rightB z = false
  · simp only [if_pos hr]
    cases L19.get T p with
    | none => dsimp only; rw [if_neg (by simp)]; exact h
    | some _ => exact h
  simp only [if_neg hr]
  by_cases hl : 1000 < d.length
  · simp only [if_pos hl]
    cases L19.get T p with
    | none => dsimp only; rw [if_neg (by simp)]; exact h
    | some _ => exact h
  simp only [if_neg hl]
  cases hg : L19.get T p with
  | none =>
    dsimp only
    by_cases hp : L19.putE T p ⟨false, who, z.toNat, d⟩ = 0
    · rw [if_pos hp]; unfold putT; rw [if_pos hp]; exact h.ins hT hg
    · rw [if_neg hp]; unfold putT; rw [if_neg hp]; exact h
  | some nd =>
    dsimp only
    by_cases hd : nd.dir = true
    · simp only [if_pos hd]; exact h
    · simp only [if_neg hd]
      by_cases hm : may who nd 2 = false
      · simp only [if_pos hm]; exact h
      · simp only [if_neg hm]; exact h.set hT hg
theorem RT.chmod (h : RT T xs) (hT : TS T) (who p : List UInt8) (z : Int) : (chR xs who p z).1 = (chR T who p z).1 ∧ RT (chR T who p z).2 (chR xs who p z).2 := by
  unfold chR
  rw [h.come hT, h.get hT]
  split
  · split
    · exact ⟨rfl, h⟩
    · cases hg : L19.get T p with
      | none => exact ⟨rfl, h⟩
      | some nd =>
        dsimp only
        split
        · exact ⟨rfl, h⟩
        · exact ⟨rfl, h.set hT hg⟩
  · exact ⟨rfl, h⟩
theorem RT.give (h : RT T xs) (hT : TS T) (who p o : List UInt8) : (gvR xs who p o).1 = (gvR T who p o).1 ∧ RT (gvR T who p o).2 (gvR xs who p o).2 := by
  unfold gvR
  rw [h.find hT, h.get hT]
  split
  · split
    · exact ⟨rfl, h⟩
    · cases hg : L19.get T p with
      | none => exact ⟨rfl, h⟩
      | some nd => exact ⟨rfl, h.set hT hg⟩
  · exact ⟨rfl, h⟩
theorem RT.remove (h : RT T xs) (hT : TS T) (who p : List UInt8) : (rmR xs who p).1 = (rmR T who p).1 ∧ RT (rmR T who p).2 (rmR xs who p).2 := by
  have hk : (L19.kids xs p = []) = (L19.kids T p = []) := by
    rw [← List.length_eq_zero_iff, ← List.length_eq_zero_iff, (h.kids hT p).length_eq]
  unfold rmR
  rw [h.come hT, h.get hT, h.get hT]
  simp only [hk]
  split
  · split
    · exact ⟨rfl, h⟩
    · cases hg : L19.get T p with
      | none => exact ⟨rfl, h⟩
      | some nd =>
        dsimp only
        cases L19.get T (par p) with
        | none => exact ⟨rfl, h⟩
        | some pn =>
          dsimp only
          split
          · exact ⟨rfl, h⟩
          · split
            · exact ⟨rfl, h.rm hT hg⟩
            · exact ⟨rfl, h⟩
  · exact ⟨rfl, h⟩
end
theorem TS.set2 {T : TL} (h : TS T) {p : List UInt8} {n n' : Nd} (hg : get T p = some n) (hd : n'.dir = n.dir) (hda : n'.data = n.data) (hk : TK (setN T p n')) : TS (setN T p n') := by
  have hm := mem_of_get hg
  have mem : ∀ x, x ∈ setN T p n' ↔ x = (p, n') ∨ (x ∈ T ∧ x.1 ≠ p) := fun x => mem_setN h.nd hg
  refine ⟨hk, fun x hx => ?_, fun x hx hne => ?_, fun x hx => ?_, fun x hx => ?_⟩
  · rcases (mem x).1 hx with rfl | hx
    · exact h.pa (p, n) hm
    · exact h.pa x hx.1
  · have : ∃ nd, (par x.1, nd) ∈ T ∧ nd.dir = true := by
      rcases (mem x).1 hx with rfl | hx
      · exact h.pr (p, n) hm hne
      · exact h.pr x hx.1 hne
    obtain ⟨nd, a, b⟩ := this
    by_cases e : par x.1 = p
    · refine ⟨n', (mem _).2 (.inl (by rw [e])), ?_⟩
      rw [e] at a
      have := inj_of_nodup (f := fun y : List UInt8 × Nd => y.1) h.nd a hm rfl
      rw [Prod.mk.injEq] at this
      rw [hd, ← this.2]; exact b
    · exact ⟨nd, (mem _).2 (.inr ⟨a, e⟩), b⟩
  · rcases (mem x).1 hx with rfl | hx
    · intro q
      show n'.data = []
      rw [hda]
      exact h.dd _ hm (by rw [← hd]; exact q)
    · exact h.dd x hx.1
  · rcases (mem x).1 hx with rfl | hx
    · exact h.ps (p, n) hm
    · exact h.ps x hx.1
theorem TS.ch {T : TL} (h : TS T) {who p : List UInt8} {z : Int} : TS (chR T who p z).2 := by
  have hk := h.toTK.ch (who := who) (p := p) (z := z)
  unfold chR at hk ⊢
  split
  · rename_i hc
    rw [if_pos hc] at hk
    split
    · exact h
    · rename_i hr
      rw [if_neg hr] at hk
      cases hg : get T p with
      | none => exact h
      | some nd =>
        rw [hg] at hk
        dsimp only at hk ⊢
        split
        · exact h
        · rename_i hm
          rw [if_neg hm] at hk
          exact h.set2 hg rfl rfl hk
  · exact h
theorem TS.gv {T : TL} (h : TS T) {who p o : List UInt8} (ho : o.length ≤ 1000000) : TS (gvR T who p o).2 := by
  have hk := h.toTK.gv (who := who) (p := p) (o := o) ho
  unfold gvR at hk ⊢
  split
  · rename_i hc
    rw [if_pos hc] at hk
    split
    · exact h
    · rename_i hm
      rw [if_neg hm] at hk
      cases hg : get T p with
      | none => exact h
      | some nd =>
        rw [hg] at hk
        exact h.set2 hg rfl rfl hk
  · exact h
end L19
