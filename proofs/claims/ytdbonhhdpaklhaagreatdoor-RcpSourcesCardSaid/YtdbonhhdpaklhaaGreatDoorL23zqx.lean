import Derived.Test.YtdbonhhdpaklhaaGreatDoorL23znx
section
open Go Ab Go.Proofs
namespace L23
set_option autoImplicit false
set_option linter.unusedSimpArgs false
set_option linter.unusedVariables false

/-! ### The document's nodes are the program's -/
abbrev ltN (a b : List UInt8 × Nd) : Prop := a.1 < b.1
theorem rise_eq : ∀ {a b : TL}, a.Pairwise ltN → b.Pairwise ltN → (∀ x, x ∈ a ↔ x ∈ b) → a = b
  | [], [], _, _, _ => rfl
  | [], y :: b, _, _, h => absurd ((h y).2 (by simp)) (by simp)
  | x :: a, [], _, _, h => absurd ((h x).1 (by simp)) (by simp)
  | x :: a, y :: b, ha, hb, h => by
    rw [List.pairwise_cons] at ha hb
    have hxy : x = y := by
      rcases List.mem_cons.1 ((h x).1 (by simp)) with e | e
      · exact e
      · rcases List.mem_cons.1 ((h y).2 (by simp)) with e2 | e2
        · exact e2.symm
        · exact absurd (hb.1 x e) (List.lt_asymm (ha.1 y e2))
    subst hxy
    rw [rise_eq ha.2 hb.2 fun z => ?_]
    have nx : ∀ {l : TL}, (∀ z ∈ l, ltN x z) → x ∉ l := fun hl hm => List.lt_irrefl _ (hl x hm)
    have hz := h z
    simp only [List.mem_cons] at hz
    by_cases e : z = x
    · subst e; exact ⟨fun q => absurd q (nx ha.1), fun q => absurd q (nx hb.1)⟩
    · simpa [e] using hz
structure RT (T xs : TL) : Prop where
  so : xs.Pairwise ltN
  me : ∀ x, x ∈ xs ↔ x ∈ T
section
variable {T xs : TL}
theorem RT.nodes (h : RT T xs) (hT : TS T) : xs = nodesL T := by
  have nl := nodes_NL hT.toTI
  exact rise_eq h.so nl.srt fun x => ⟨fun q => nl.inn x ((h.me x).1 q), fun q => (h.me x).2 (nl.mem x q)⟩
theorem RT.nd (h : RT T xs) : (xs.map (·.1)).Nodup := by
  have h1 : (xs.map (·.1)).Pairwise (· < ·) := by rw [List.pairwise_map]; exact h.so
  exact h1.imp fun {a b} q e => by rw [e] at q; exact List.lt_irrefl _ q
theorem RT.perm (h : RT T xs) (hT : TS T) : xs.Perm T :=
  (List.perm_ext_iff_of_nodup (nodup_of_map h.nd) (nodup_of_map hT.nd)).2 h.me
theorem RT.len (h : RT T xs) (hT : TS T) : xs.length = T.length := (h.perm hT).length_eq
theorem RT.get (h : RT T xs) (hT : TS T) (p : List UInt8) : L23.get xs p = L23.get T p := by
  cases hg : L23.get T p with
  | none =>
    cases hx : L23.get xs p with
    | none => rfl
    | some n => exact absurd rfl (get_none hg _ ((h.me _).1 (mem_of_get hx)))
  | some n => exact get_of_mem h.nd ((h.me _).2 (mem_of_get hg))
theorem comeF_congr (hg : ∀ p, L23.get xs p = L23.get T p) (who p : List UInt8) : ∀ n i, comeF xs who p n i = comeF T who p n i
  | 0, _ => rfl
  | n + 1, i => by
    rw [comeF, comeF, hg]
    simp only [comeF_congr hg who p n]
theorem RT.come (h : RT T xs) (hT : TS T) (who p : List UInt8) : comeE xs who p = comeE T who p := by
  unfold comeE; rw [comeF_congr (h.get hT)]
theorem RT.find (h : RT T xs) (hT : TS T) (who p : List UInt8) : findE xs who p = findE T who p := by
  unfold findE; rw [h.come hT, h.get hT]
theorem RT.read (h : RT T xs) (hT : TS T) (who p : List UInt8) : rdR xs who p = rdR T who p := by
  unfold rdR; rw [h.find hT, h.get hT]
theorem RT.ls (h : RT T xs) (hT : TS T) (who p : List UInt8) : lsE xs who p = lsE T who p := by
  unfold lsE; rw [h.find hT, h.get hT]
theorem RT.kids (h : RT T xs) (hT : TS T) (q : List UInt8) : (L23.kids xs q).Perm (L23.kids T q) := by
  unfold L23.kids
  exact (((h.perm hT).map _).filter _).map _
theorem RT.rx (h : RT T xs) (hT : TS T) : RX xs := ⟨fun x hx => hT.md x ((h.me x).1 hx), by rw [h.len hT]; have := hT.mx; omega⟩
theorem RT.pa (h : RT T xs) (hT : TS T) : ∀ x ∈ xs, pathB x.1 = true ∧ x.1.length ≤ 100000 := fun x hx => ⟨hT.pa x ((h.me x).1 hx), by have := hT.ps x ((h.me x).1 hx); omega⟩
theorem RT.dl (h : RT T xs) (hT : TS T) : ∀ x ∈ xs, x.2.data.length ≤ 1000 := fun x hx => hT.dl x ((h.me x).1 hx)
theorem RT.tp (h : RT T xs) (hT : TS T) : ∃ nd, L23.get xs [47] = some nd := by rw [h.get hT]; exact hT.tp
/-- A node is put. -/
theorem mem_insX {e x : List UInt8 × Nd} : ∀ {xs : TL}, x ∈ insX e xs ↔ x = e ∨ x ∈ xs
  | [] => by simp [insX]
  | y :: ys => by
    rw [insX]
    split
    · simp
    · rw [List.mem_cons, mem_insX, List.mem_cons]
      constructor <;> (intro h; rcases h with h | h | h <;> simp [h])
theorem insX_so {e : List UInt8 × Nd} : ∀ {xs : TL}, xs.Pairwise ltN → (∀ x ∈ xs, x.1 ≠ e.1) → (insX e xs).Pairwise ltN
  | [], _, _ => by simp [insX]
  | y :: ys, h, hn => by
    rw [List.pairwise_cons] at h
    rw [insX]
    split
    · rename_i hlt
      rw [List.pairwise_cons, List.pairwise_cons]
      refine ⟨fun z hz => ?_, h⟩
      rcases List.mem_cons.1 hz with rfl | hz
      · exact hlt
      · exact List.lt_trans hlt (h.1 z hz)
    · rename_i hlt
      rw [List.pairwise_cons]
      refine ⟨fun z hz => ?_, insX_so h.2 fun x hx => hn x (by simp [hx])⟩
      rcases mem_insX.1 hz with rfl | hz
      · rcases lt_trich z.1 y.1 with q | q | q
        · exact absurd q hlt
        · exact absurd q.symm (hn y (by simp))
        · exact q
      · exact h.1 z hz
theorem RT.ins (h : RT T xs) (hT : TS T) {p : List UInt8} {n : Nd} (hg : L23.get T p = none) : RT (T ++ [(p, n)]) (insX (p, n) xs) := by
  refine ⟨insX_so h.so fun x hx e => get_none hg x ((h.me x).1 hx) e, fun x => ?_⟩
  rw [mem_insX, List.mem_append, List.mem_singleton, h.me]
  exact ⟨fun q => q.symm, fun q => q.symm⟩
theorem RT.putE (h : RT T xs) (hT : TS T) (p : List UInt8) (n : Nd) : L23.putE xs p n = L23.putE T p n := by
  unfold L23.putE; rw [h.get hT, h.len hT]
/-- A node is set. -/
theorem keys_setN {p : List UInt8} {n : Nd} : (setN T p n).map (·.1) = T.map (·.1) := by
  unfold setN
  split
  · rename_i j hj
    rw [List.findIdx?_eq_some_iff_getElem] at hj
    obtain ⟨h1, h2, _⟩ := hj
    rw [List.map_set]
    apply List.ext_getElem?
    intro k
    rw [List.getElem?_set]
    split
    · rename_i e; subst e
      rw [if_pos (by simpa using h1), List.getElem?_map, List.getElem?_eq_getElem h1]
      have : T[j].1 = p := by simpa using h2
      simp [this]
    · rfl
  · rfl
theorem mem_setN {p : List UInt8} {n nd : Nd} {x : List UInt8 × Nd} (hn : (T.map (·.1)).Nodup) (hg : L23.get T p = some nd) : x ∈ setN T p n ↔ x = (p, n) ∨ (x ∈ T ∧ x.1 ≠ p) := by
  obtain ⟨j, hj, hjf⟩ := findIdx_get hg
  have hjl : j < T.length := (List.getElem?_eq_some_iff.1 hj).1
  have e : setN T p n = T.set j (p, n) := by simp only [setN, hjf]
  rw [e]
  constructor
  · intro hx
    obtain ⟨k, hk⟩ := List.mem_iff_getElem?.1 hx
    rw [List.getElem?_set] at hk
    split at hk
    · exact .inl (Option.some.inj hk).symm
    · rename_i hjk
      refine .inr ⟨List.mem_of_getElem? hk, fun q => hjk ?_⟩
      have e1 : (T.map (·.1))[j]? = some p := by rw [List.getElem?_map, hj]; rfl
      have e2 : (T.map (·.1))[k]? = some p := by rw [List.getElem?_map, hk]; simp [q]
      exact (List.getElem?_inj (by simpa using hjl) hn).1 (e1.trans e2.symm)
  · rintro (rfl | ⟨hx, hne⟩)
    · exact List.mem_of_getElem? (i := j) (by rw [List.getElem?_set_self hjl])
    · obtain ⟨k, hk⟩ := List.mem_iff_getElem?.1 hx
      refine List.mem_of_getElem? (i := k) ?_
      rw [List.getElem?_set_ne (fun q => ?_)]
      · exact hk
      · subst q; rw [hj] at hk; cases hk; exact hne rfl
theorem RT.set (h : RT T xs) (hT : TS T) {p : List UInt8} {n nd : Nd} (hg : L23.get T p = some nd) : RT (setN T p n) (setN xs p n) := by
  refine ⟨?_, fun x => ?_⟩
  · have h1 : ((setN xs p n).map (·.1)).Pairwise (· < ·) := by rw [keys_setN, List.pairwise_map]; exact h.so
    rw [List.pairwise_map] at h1; exact h1
  · rw [mem_setN h.nd (by rw [h.get hT]; exact hg), mem_setN hT.nd hg, h.me]
theorem mem_rmT {p : List UInt8} {nd : Nd} {x : List UInt8 × Nd} (hn : (T.map (·.1)).Nodup) (hg : L23.get T p = some nd) : x ∈ rmT T p ↔ x ∈ T ∧ x.1 ≠ p := by
  obtain ⟨j, hj, hjf⟩ := findIdx_get hg
  have hjl : j < T.length := (List.getElem?_eq_some_iff.1 hj).1
  have e : rmT T p = T.eraseIdx j := by simp only [rmT, hjf]
  rw [e, List.mem_eraseIdx_iff_getElem?]
  constructor
  · rintro ⟨k, hk, hkx⟩
    refine ⟨List.mem_of_getElem? hkx, fun q => hk ?_⟩
    have e1 : (T.map (·.1))[j]? = some p := by rw [List.getElem?_map, hj]; rfl
    have e2 : (T.map (·.1))[k]? = some p := by rw [List.getElem?_map, hkx]; simp [q]
    exact ((List.getElem?_inj (by simpa using hjl) hn).1 (e1.trans e2.symm)).symm
  · rintro ⟨hm, hne⟩
    obtain ⟨k, hk⟩ := List.mem_iff_getElem?.1 hm
    refine ⟨k, ?_, hk⟩
    rintro rfl
    rw [hj] at hk; cases hk; exact hne rfl
theorem RT.rm (h : RT T xs) (hT : TS T) {p : List UInt8} {nd : Nd} (hg : L23.get T p = some nd) : RT (rmT T p) (rmT xs p) := by
  refine ⟨?_, fun x => ?_⟩
  · unfold rmT
    split
    · exact h.so.sublist (List.eraseIdx_sublist _ _)
    · exact h.so
  · rw [mem_rmT h.nd (by rw [h.get hT]; exact hg), mem_rmT hT.nd hg, h.me]
/-- The calls. -/
theorem RT.mkdir (h : RT T xs) (hT : TS T) (who p : List UInt8) (z : Int) : (mkR xs who p z).1 = (mkR T who p z).1 ∧ RT (mkR T who p z).2 (mkS xs who p z) := by
  have e1 : (mkR xs who p z).1 = (mkR T who p z).1 := by
    unfold mkR
    rw [h.come hT, h.get hT]
    split
    · split
      · rfl
      · split
        · rfl
        · dsimp only; rw [h.putE hT]
    · rfl
  refine ⟨e1, ?_⟩
  unfold mkS
  rw [e1]
  unfold mkR
  by_cases hc : comeE T who p = 0
  rotate_left
  · rw [if_neg hc, if_neg hc]; exact h
  rw [if_pos hc]
  by_cases hr : rightB z = false
  · rw [if_pos hr, if_neg (by simp)]; exact h
  rw [if_neg hr]
  cases hg : L23.get T p with
  | some n => dsimp only; rw [if_neg (by simp)]; exact h
  | none =>
    dsimp only
    by_cases hp : L23.putE T p ⟨true, who, z.toNat, []⟩ = 0
    · rw [if_pos hp]; unfold putT; rw [if_pos hp]; exact h.ins hT hg
    · rw [if_neg hp]; unfold putT; rw [if_neg hp]; exact h
theorem RT.write (h : RT T xs) (hT : TS T) (who p d : List UInt8) (z : Int) : (wrR xs who p d z).1 = (wrR T who p d z).1 ∧ RT (wrR T who p d z).2 (wrS xs who p d z) := by
  have e1 : (wrR xs who p d z).1 = (wrR T who p d z).1 := by
    unfold wrR
    rw [h.come hT, h.get hT]
    split
    · split
      · rfl
      · split
        · rfl
        · split
          · dsimp only; rw [h.putE hT]
          · split
            · rfl
            · split <;> rfl
    · rfl
  refine ⟨e1, ?_⟩
  unfold wrS
  rw [h.get hT, e1]
  unfold wrR
  rw [h.come hT, h.get hT]
  by_cases hc : comeE T who p = 0
  rotate_left
  · simp only [if_neg hc]
    cases L23.get T p <;> exact h
  simp only [if_pos hc]
  by_cases hr : rightB z = false
  · simp only [if_pos hr]
    cases L23.get T p with
    | none => dsimp only; rw [if_neg (by simp)]; exact h
    | some _ => exact h
  simp only [if_neg hr]
  by_cases hl : 1000 < d.length
  · simp only [if_pos hl]
    cases L23.get T p with
    | none => dsimp only; rw [if_neg (by simp)]; exact h
    | some _ => exact h
  simp only [if_neg hl]
  cases hg : L23.get T p with
  | none =>
    dsimp only
    by_cases hp : L23.putE T p ⟨false, who, z.toNat, d⟩ = 0
    · rw [if_pos hp]; unfold putT; rw [if_pos hp]; exact h.ins hT hg
    · rw [if_neg hp]; unfold putT; rw [if_neg hp]; exact h
  | some nd =>
    dsimp only
    by_cases hd : nd.dir = true
    · simp only [if_pos hd]; exact h
    · simp only [if_neg hd]
      by_cases hm : may who nd 2 = false
      · simp only [if_pos hm]; exact h
      · simp only [if_neg hm]; exact h.set hT hg
theorem RT.chmod (h : RT T xs) (hT : TS T) (who p : List UInt8) (z : Int) : (chR xs who p z).1 = (chR T who p z).1 ∧ RT (chR T who p z).2 (chR xs who p z).2 := by
  unfold chR
  rw [h.come hT, h.get hT]
  split
  · split
    · exact ⟨rfl, h⟩
    · cases hg : L23.get T p with
      | none => exact ⟨rfl, h⟩
      | some nd =>
        dsimp only
        split
        · exact ⟨rfl, h⟩
        · exact ⟨rfl, h.set hT hg⟩
  · exact ⟨rfl, h⟩
theorem RT.give (h : RT T xs) (hT : TS T) (who p o : List UInt8) : (gvR xs who p o).1 = (gvR T who p o).1 ∧ RT (gvR T who p o).2 (gvR xs who p o).2 := by
  unfold gvR
  rw [h.find hT, h.get hT]
  split
  · split
    · exact ⟨rfl, h⟩
    · cases hg : L23.get T p with
      | none => exact ⟨rfl, h⟩
      | some nd => exact ⟨rfl, h.set hT hg⟩
  · exact ⟨rfl, h⟩
theorem RT.remove (h : RT T xs) (hT : TS T) (who p : List UInt8) : (rmR xs who p).1 = (rmR T who p).1 ∧ RT (rmR T who p).2 (rmR xs who p).2 := by
  have hk : (L23.kids xs p = []) = (L23.kids T p = []) := by
    rw [← List.length_eq_zero_iff, ← List.length_eq_zero_iff, (h.kids hT p).length_eq]
  unfold rmR
  rw [h.come hT, h.get hT, h.get hT]
  simp only [hk]
  split
  · split
    · exact ⟨rfl, h⟩
    · cases hg : L23.get T p with
      | none => exact ⟨rfl, h⟩
      | some nd =>
        dsimp only
        cases L23.get T (par p) with
        | none => exact ⟨rfl, h⟩
        | some pn =>
          dsimp only
          split
          · exact ⟨rfl, h⟩
          · split
            · exact ⟨rfl, h.rm hT hg⟩
            · exact ⟨rfl, h⟩
  · exact ⟨rfl, h⟩
end
theorem TS.set2 {T : TL} (h : TS T) {p : List UInt8} {n n' : Nd} (hg : get T p = some n) (hd : n'.dir = n.dir) (hda : n'.data = n.data) (hk : TK (setN T p n')) : TS (setN T p n') := by
  have hm := mem_of_get hg
  have mem : ∀ x, x ∈ setN T p n' ↔ x = (p, n') ∨ (x ∈ T ∧ x.1 ≠ p) := fun x => mem_setN h.nd hg
  refine ⟨hk, fun x hx => ?_, fun x hx hne => ?_, fun x hx => ?_, fun x hx => ?_⟩
  · rcases (mem x).1 hx with rfl | hx
    · exact h.pa (p, n) hm
    · exact h.pa x hx.1
  · have : ∃ nd, (par x.1, nd) ∈ T ∧ nd.dir = true := by
      rcases (mem x).1 hx with rfl | hx
      · exact h.pr (p, n) hm hne
      · exact h.pr x hx.1 hne
    obtain ⟨nd, a, b⟩ := this
    by_cases e : par x.1 = p
    · refine ⟨n', (mem _).2 (.inl (by rw [e])), ?_⟩
      rw [e] at a
      have := inj_of_nodup (f := fun y : List UInt8 × Nd => y.1) h.nd a hm rfl
      rw [Prod.mk.injEq] at this
      rw [hd, ← this.2]; exact b
    · exact ⟨nd, (mem _).2 (.inr ⟨a, e⟩), b⟩
  · rcases (mem x).1 hx with rfl | hx
    · intro q
      show n'.data = []
      rw [hda]
      exact h.dd _ hm (by rw [← hd]; exact q)
    · exact h.dd x hx.1
  · rcases (mem x).1 hx with rfl | hx
    · exact h.ps (p, n) hm
    · exact h.ps x hx.1
theorem TS.ch {T : TL} (h : TS T) {who p : List UInt8} {z : Int} : TS (chR T who p z).2 := by
  have hk := h.toTK.ch (who := who) (p := p) (z := z)
  unfold chR at hk ⊢
  split
  · rename_i hc
    rw [if_pos hc] at hk
    split
    · exact h
    · rename_i hr
      rw [if_neg hr] at hk
      cases hg : get T p with
      | none => exact h
      | some nd =>
        rw [hg] at hk
        dsimp only at hk ⊢
        split
        · exact h
        · rename_i hm
          rw [if_neg hm] at hk
          exact h.set2 hg rfl rfl hk
  · exact h
theorem TS.gv {T : TL} (h : TS T) {who p o : List UInt8} (ho : o.length ≤ 1000000) : TS (gvR T who p o).2 := by
  have hk := h.toTK.gv (who := who) (p := p) (o := o) ho
  unfold gvR at hk ⊢
  split
  · rename_i hc
    rw [if_pos hc] at hk
    split
    · exact h
    · rename_i hm
      rw [if_neg hm] at hk
      cases hg : get T p with
      | none => exact h
      | some nd =>
        rw [hg] at hk
        exact h.set2 hg rfl rfl hk
  · exact h
end L23
end

section
open Go Ab Go.Proofs
namespace L23
set_option autoImplicit false
set_option linter.unusedSimpArgs false
set_option linter.unusedVariables false
section
variable {O : Old} {h : AHeap} {R : List Chunk} {i : Nat} {T : TL}
/-! ### Stat and List -/
def StatT (O : Old) (R : List Chunk) (i : Nat) (T : TL) (who p : List UInt8) (r : Value) (h' : AHeap) : Prop :=
  ∃ z : NZ, r = .tuple #[.agg (nz z).toArray, .int .i64 (findE T who p)] ∧ ((findE T who p = 0 ∧ z.1.1 = p ∧ get T p = some z.1.2) ∨ (findE T who p ≠ 0 ∧ z = zN)) ∧ Own O h' (sb z :: tr i T :: R)
set_option maxHeartbeats 8000000 in
theorem stat_calls {who p : List UInt8} (hI : TK T) (k : Own O h (tr i T :: R)) (hp : p.length ≤ 900000) :
    ACalls Tryz.prog 16 #[ptr i, tx who, tx p] h (StatT O R i T who p) := by
  obtain ⟨m, ws, hw, k0⟩ := tr_iff.1 k
  refine ACalls.of_awp (args := [ptr i, tx who, tx p]) (n := 23) Tryz.func16 rfl rfl (by show 3 ≤ 23; omega) ?_
  have k1 := k0.push (.row (nz zN) 47 5 true false)
  have k1' : Own O _ (tro i m T ws ++ (cell h.next (.row (nz zN) 47 5 true false) :: R)) := k1.perm (by
    show (_ :: (tro i m T ws ++ R)).Perm _
    exact List.perm_middle.symm)
  (repeat' first
    | refine AWP.seq ?_
    | refine AWP.block ?_
    | (refine AWP.skip ?_; try dsimp only [thn, inBlk])
    | (refine AWP.exit ?_; try simp only [thn, inBlk, if_true, reduceIte, Nat.reduceEqDiff])
    | (refine AWP.ret ?_; try dsimp only [thn, inBlk])
    | (refine AWP.condT ?_ ?_; (focus (simp [go_sem]; done)))
    | (refine AWP.condF ?_ ?_; (focus (simp [go_sem]; done)))
    | (apply AWP.rE; (focus (simp [go_sem]; exact ⟨rfl, rfl⟩)); try dsimp only [thn, inBlk])
    | fail)
  refine AWP.callE (by simp [go_sem]; exact ⟨rfl, rfl, rfl, rfl, rfl⟩) (by kernel_rfl) ?_
  refine (find_calls (who := who) hI.toTI hw k1' hp).mono ?_
  rintro r h1 ⟨rfl, k2⟩
  have k3 : Own O h1 (cell h.next (.row (nz zN) 47 5 true false) :: (tro i m T ws ++ R)) := k2.perm List.perm_middle
  have c3 := k3.obj
  by_cases hc : findE T who p = 0
  rotate_left
  · have hc' : (findE T who p != 0) = true := by simpa using hc
    have k4 := k3.set (.row (nz zN) 47 5 true false)
    have c4 := k4.obj
    have hf : ∀ hh : AHeap, Own O hh (tro i m T ws ++ R) → StatT O R i T who p (.tuple #[.agg (nz zN).toArray, .int .i64 (findE T who p)]) hh := fun hh kk => ⟨zN, rfl, .inr ⟨hc, rfl⟩, (tr_iff.2 ⟨m, ws, hw, kk⟩).nil 5 1⟩
    generalize (if comeE T who p = 0 then pv T ws p else .pointer none) = PV
    generalize findE T who p = y at *
    refine awpL_restE (by simp [go_sem]; exact ⟨rfl, rfl⟩) ?_; try dsimp only [thn, inBlk]
    (repeat' first
      | refine AWP.seq ?_
      | refine AWP.block ?_
      | (refine AWP.skip ?_; try dsimp only [thn, inBlk])
      | (refine AWP.exit ?_; try simp only [thn, inBlk, if_true, reduceIte, Nat.reduceEqDiff])
      | (refine AWP.ret ?_; try dsimp only [thn, inBlk])
      | (refine AWP.condT ?_ ?_; (focus (simp [go_sem, hc', c3]; done)))
      | (refine AWP.condF ?_ ?_; (focus (simp [go_sem, hc', c3]; done)))
      | (apply AWP.rE; (focus (simp [go_sem, hc', c3]; exact ⟨rfl, rfl⟩)); try dsimp only [thn, inBlk])
      | fail)
    simp [bodyQ, thn, inBlk, resA, resV, go_sem, c4]
    exact hf _ k4.tail
  obtain ⟨nd, hg⟩ := find_get hc
  have hc0 : comeE T who p = 0 := by
    by_cases h : comeE T who p = 0
    · exact h
    · unfold findE at hc; rw [if_neg h] at hc; exact absurd hc h
  obtain ⟨j, w, t1, t2, t3, t4⟩ := pv_at hw hg
  have hdl := hI.dl _ (List.mem_of_getElem? t1)
  dsimp only at hdl
  have hstat : ∀ (a : Option Addr) (cap : Nat) (hh : AHeap), Own O hh (ndat (p, nd) (a, cap) :: (tro i m T ws ++ R)) → StatT O R i T who p (.tuple #[.agg (ncells (p, nd) (a, cap)).toArray, .int .i64 0]) hh := fun a cap hh kk =>
    ⟨((p, nd), (a, cap)), by rw [hc], .inl ⟨hc, rfl, hg⟩, ((tr_iff.2 ⟨m, ws, hw, kk.tail.perm (List.Perm.refl _)⟩ : Own O hh (tr i T :: R)) |> fun _ => by
      have kp : Own O hh (tro i m T ws ++ (ndat (p, nd) (a, cap) :: R)) := kk.perm List.perm_middle.symm
      exact (tr_iff.2 ⟨m, ws, hw, kp⟩).b1)⟩
  rw [if_pos hc0, t3, hc]
  have kR : ∀ hh, Own O hh (cell h.next (.row (nz zN) 47 5 true false) :: (tro i m T ws ++ R)) → hh.obj w.1 = some (nrow (p, nd) w) := fun hh kk => (node_open kk.tail t1 t2).obj
  have kB : ∀ hh, Own O hh (cell h.next (.row (nz zN) 47 5 true false) :: (tro i m T ws ++ R)) → Bytes hh (.slice w.2.1 nd.data.length w.2.2) nd.data := fun hh kk => (node_open kk.tail t1 t2).tail.ob_bytes
  refine awpL_restE (by simp [go_sem]; exact ⟨rfl, rfl⟩) ?_; try dsimp only [thn, inBlk]
  (repeat' first
    | refine AWP.seq ?_
    | refine AWP.block ?_
    | (refine AWP.skip ?_; try dsimp only [thn, inBlk])
    | (refine AWP.exit ?_; try simp only [thn, inBlk, if_true, reduceIte, Nat.reduceEqDiff])
    | (refine AWP.ret ?_; try dsimp only [thn, inBlk])
    | (refine AWP.condT ?_ ?_; (focus (simp [go_sem]; done)))
    | (refine AWP.condF ?_ ?_; (focus (simp [go_sem]; done)))
    | (apply AWP.rE; (focus (simp [go_sem]; exact ⟨rfl, rfl⟩)); try dsimp only [thn, inBlk])
    | fail)
  refine AWP.callE (by simp [go_sem]; exact ⟨rfl, rfl, rfl, rfl, rfl⟩) (by kernel_rfl) ?_
  refine (copied_calls (x := (p, nd)) (w := w) k3 kR kB (by dsimp only; omega)).mono ?_
  rintro r h3 ⟨a, cap, rfl, k5⟩
  have c5 := k5.b1.obj
  have k6 := k5.b1.set (.row (ncells (p, nd) (a, cap)) 47 5 true false)
  have c6 := k6.obj
  refine awpL_restE (by simp [go_sem, c5]; exact ⟨rfl, rfl⟩) ?_; try dsimp only [thn, inBlk]
  (repeat' first
    | refine AWP.seq ?_
    | refine AWP.block ?_
    | (refine AWP.skip ?_; try dsimp only [thn, inBlk])
    | (refine AWP.exit ?_; try simp only [thn, inBlk, if_true, reduceIte, Nat.reduceEqDiff])
    | (refine AWP.ret ?_; try dsimp only [thn, inBlk])
    | (refine AWP.condT ?_ ?_; (focus (simp [go_sem]; done)))
    | (refine AWP.condF ?_ ?_; (focus (simp [go_sem]; done)))
    | (apply AWP.rE; (focus (simp [go_sem]; exact ⟨rfl, rfl⟩)); try dsimp only [thn, inBlk])
    | fail)
  simp [bodyQ, thn, inBlk, resA, resV, go_sem, c6]
  exact hstat a cap _ k6.tail
def ListT (O : Old) (R : List Chunk) (i : Nat) (T : TL) (who p : List UInt8) (r : Value) (h' : AHeap) : Prop :=
  ∃ a cap S, r = .tuple #[.slice a S.length cap, .int .i64 (lsE T who p)] ∧ (lsE T who p = 0 → S = srt (kids T p)) ∧ (lsE T who p ≠ 0 → S = []) ∧ Own O h' (txs (.slice a S.length cap) S :: tr i T :: R)
set_option maxHeartbeats 8000000 in
theorem list_calls {who p : List UInt8} (hI : TK T) (k : Own O h (tr i T :: R)) (hp : p.length ≤ 900000) :
    ACalls Tryz.prog 47 #[ptr i, tx who, tx p] h (ListT O R i T who p) := by
  obtain ⟨m, ws, hw, k0⟩ := tr_iff.1 k
  have hmx := hI.mx
  refine ACalls.of_awp (args := [ptr i, tx who, tx p]) (n := 35) Tryz.func47 rfl rfl (by show 3 ≤ 35; omega) ?_
  (repeat' first
    | refine AWP.seq ?_
    | refine AWP.block ?_
    | (refine AWP.skip ?_; try dsimp only [thn, inBlk])
    | (refine AWP.exit ?_; try simp only [thn, inBlk, if_true, reduceIte, Nat.reduceEqDiff])
    | (refine AWP.ret ?_; try dsimp only [thn, inBlk])
    | (refine AWP.condT ?_ ?_; (focus (simp [go_sem]; done)))
    | (refine AWP.condF ?_ ?_; (focus (simp [go_sem]; done)))
    | (apply AWP.rE; (focus (simp [go_sem]; exact ⟨rfl, rfl⟩)); try dsimp only [thn, inBlk])
    | fail)
  refine AWP.callE (by simp [go_sem]; exact ⟨rfl, rfl, rfl, rfl, rfl⟩) (by kernel_rfl) ?_
  refine (find_calls (who := who) hI.toTI hw k0 hp).mono ?_
  rintro r h1 ⟨rfl, k1⟩
  have kT := (tr_iff.2 ⟨m, ws, hw, k1⟩).nil 9 1
  have bad : ∀ (y : Int), lsE T who p = y → y ≠ 0 → ListT O R i T who p (.tuple #[.slice none 0 0, .int .i64 y]) h1 := fun y e hy => by
    unfold ListT
    rw [e]
    exact ⟨none, 0, [], rfl, fun q => absurd q hy, fun _ => rfl, kT⟩
  by_cases hc : findE T who p = 0
  rotate_left
  · have hc' : (findE T who p != 0) = true := by simpa using hc
    have e : lsE T who p = findE T who p := by unfold lsE; rw [if_neg hc]
    have b := bad _ e hc
    generalize (if comeE T who p = 0 then pv T ws p else .pointer none) = PV
    generalize findE T who p = y at *
    refine awpL_restE (by simp [go_sem]; exact ⟨rfl, rfl⟩) ?_; try dsimp only [thn, inBlk]
    (repeat' first
      | refine AWP.seq ?_
      | refine AWP.block ?_
      | (refine AWP.skip ?_; try dsimp only [thn, inBlk])
      | (refine AWP.exit ?_; try simp only [thn, inBlk, if_true, reduceIte, Nat.reduceEqDiff])
      | (refine AWP.ret ?_; try dsimp only [thn, inBlk])
      | (refine AWP.condT ?_ ?_; (focus (simp [go_sem, hc']; done)))
      | (refine AWP.condF ?_ ?_; (focus (simp [go_sem, hc']; done)))
      | (apply AWP.rE; (focus (simp [go_sem, hc']; exact ⟨rfl, rfl⟩)); try dsimp only [thn, inBlk])
      | fail)
    simp [bodyQ, thn, inBlk, resA, resV, go_sem]
    exact b
  obtain ⟨nd, hg⟩ := find_get hc
  have hc0 : comeE T who p = 0 := by
    by_cases h : comeE T who p = 0
    · exact h
    · unfold findE at hc; rw [if_neg h] at hc; exact absurd hc h
  obtain ⟨j, w, t1, t2, t3, t4⟩ := pv_at hw hg
  have ho : h1.obj w.1 = some (nrow (p, nd) w) := (node_open k1 t1 t2).obj
  have hmd := hI.md _ (List.mem_of_getElem? t1)
  have e0 : lsE T who p = if nd.dir = false then 112 else if may who nd 4 = false then 114 else 0 := by
    unfold lsE; rw [if_pos hc, hg]
  rw [if_pos hc0, t3, hc]
  cases hdr : nd.dir
  · rw [hdr, if_pos rfl] at e0
    have b := bad _ e0 (by decide)
    refine awpL_restE (by simp [go_sem]; exact ⟨rfl, rfl⟩) ?_; try dsimp only [thn, inBlk]
    (repeat' first
      | refine AWP.seq ?_
      | refine AWP.block ?_
      | (refine AWP.skip ?_; try dsimp only [thn, inBlk])
      | (refine AWP.exit ?_; try simp only [thn, inBlk, if_true, reduceIte, Nat.reduceEqDiff])
      | (refine AWP.ret ?_; try dsimp only [thn, inBlk])
      | (refine AWP.condT ?_ ?_; (focus (simp [go_sem, ho, hdr]; done)))
      | (refine AWP.condF ?_ ?_; (focus (simp [go_sem, ho, hdr]; done)))
      | (apply AWP.rE; (focus (simp [go_sem, ho, hdr]; exact ⟨rfl, rfl⟩)); try dsimp only [thn, inBlk])
      | fail)
    simp [bodyQ, thn, inBlk, resA, resV, go_sem]
    exact b
  rw [hdr, if_neg (by decide)] at e0
  refine awpL_restE (by simp [go_sem]; exact ⟨rfl, rfl⟩) ?_; try dsimp only [thn, inBlk]
  (repeat' first
    | refine AWP.seq ?_
    | refine AWP.block ?_
    | (refine AWP.skip ?_; try dsimp only [thn, inBlk])
    | (refine AWP.exit ?_; try simp only [thn, inBlk, if_true, reduceIte, Nat.reduceEqDiff])
    | (refine AWP.ret ?_; try dsimp only [thn, inBlk])
    | (refine AWP.condT ?_ ?_; (focus (simp [go_sem, ho, hdr]; done)))
    | (refine AWP.condF ?_ ?_; (focus (simp [go_sem, ho, hdr]; done)))
    | (apply AWP.rE; (focus (simp [go_sem, ho, hdr]; exact ⟨rfl, rfl⟩)); try dsimp only [thn, inBlk])
    | fail)
  refine AWP.callE (by simp [go_sem]; exact ⟨rfl, rfl, rfl, rfl, rfl⟩) (by kernel_rfl) ?_
  refine (may_calls (who := who) (bit := 4) ho hmd (by omega)).mono ?_
  rintro r h3 ⟨rfl, rfl⟩
  dsimp only
  cases hmy : may who nd 4
  · rw [hmy, if_pos rfl] at e0
    have b := bad _ e0 (by decide)
    refine awpL_restE (by simp [go_sem]; exact ⟨rfl, rfl⟩) ?_; try dsimp only [thn, inBlk]
    (repeat' first
      | refine AWP.seq ?_
      | refine AWP.block ?_
      | (refine AWP.skip ?_; try dsimp only [thn, inBlk])
      | (refine AWP.exit ?_; try simp only [thn, inBlk, if_true, reduceIte, Nat.reduceEqDiff])
      | (refine AWP.ret ?_; try dsimp only [thn, inBlk])
      | (refine AWP.condT ?_ ?_; (focus (simp [go_sem]; done)))
      | (refine AWP.condF ?_ ?_; (focus (simp [go_sem]; done)))
      | (apply AWP.rE; (focus (simp [go_sem]; exact ⟨rfl, rfl⟩)); try dsimp only [thn, inBlk])
      | fail)
    simp [bodyQ, thn, inBlk, resA, resV, go_sem]
    exact b
  rw [hmy, if_neg (by decide)] at e0
  refine awpL_restE (by simp [go_sem]; exact ⟨rfl, rfl⟩) ?_; try dsimp only [thn, inBlk]
  (repeat' first
    | refine AWP.seq ?_
    | refine AWP.block ?_
    | (refine AWP.skip ?_; try dsimp only [thn, inBlk])
    | (refine AWP.exit ?_; try simp only [thn, inBlk, if_true, reduceIte, Nat.reduceEqDiff])
    | (refine AWP.ret ?_; try dsimp only [thn, inBlk])
    | (refine AWP.condT ?_ ?_; (focus (simp [go_sem]; done)))
    | (refine AWP.condF ?_ ?_; (focus (simp [go_sem]; done)))
    | (apply AWP.rE; (focus (simp [go_sem]; exact ⟨rfl, rfl⟩)); try dsimp only [thn, inBlk])
    | fail)
  refine AWP.callE (by simp [go_sem]; exact ⟨rfl, rfl, rfl, rfl, rfl⟩) (by kernel_rfl) ?_
  refine (names_calls (q := p) hI.toTI hw k1 (by omega)).mono ?_
  rintro r h5 ⟨a5, c5, rfl, k5⟩
  have hsl : (srt (kids T p)).length = (kids T p).length := by
    show (List.mergeSort _ _).length = _
    rw [List.length_mergeSort]
  have b : ListT O R i T who p (.tuple #[.slice a5 (kids T p).length c5, .int .i64 0]) h5 := by
    unfold ListT
    rw [e0]
    refine ⟨a5, c5, srt (kids T p), by rw [hsl], fun _ => rfl, fun q => absurd rfl q, ?_⟩
    have k6 : Own O h5 (tro i m T ws ++ (txs (.slice a5 (kids T p).length c5) (srt (kids T p)) :: R)) := k5.perm (by
      show (_ :: (tro i m T ws ++ R)).Perm _
      exact List.perm_middle.symm)
    rw [hsl]
    exact (tr_iff.2 ⟨m, ws, hw, k6⟩).b1
  refine awpL_restE (by simp [go_sem]; exact ⟨rfl, rfl⟩) ?_; try dsimp only [thn, inBlk]
  (repeat' first
    | refine AWP.seq ?_
    | refine AWP.block ?_
    | (refine AWP.skip ?_; try dsimp only [thn, inBlk])
    | (refine AWP.exit ?_; try simp only [thn, inBlk, if_true, reduceIte, Nat.reduceEqDiff])
    | (refine AWP.ret ?_; try dsimp only [thn, inBlk])
    | (refine AWP.condT ?_ ?_; (focus (simp [go_sem]; done)))
    | (refine AWP.condF ?_ ?_; (focus (simp [go_sem]; done)))
    | (apply AWP.rE; (focus (simp [go_sem]; exact ⟨rfl, rfl⟩)); try dsimp only [thn, inBlk])
    | fail)
  simp [bodyQ, thn, inBlk, resA, resV, go_sem]
  exact b
/-! ### The names are told alike -/
theorem srt_Sd (l : List (List UInt8)) : Sd (srt l) := by
  have tr : ∀ a b c : List UInt8, leB a b = true → leB b c = true → leB a c = true := fun a b c h1 h2 => by simp only [leB, decide_eq_true_eq] at *; exact List.le_trans h1 h2
  have to : ∀ a b : List UInt8, (leB a b || leB b a) = true := fun a b => by simp only [leB, Bool.or_eq_true, decide_eq_true_eq]; exact List.le_total a b
  refine (List.pairwise_mergeSort tr to l).imp fun {a b} q => ?_
  simp only [leB, decide_eq_true_eq] at q
  exact List.not_lt.2 q
theorem Sd_eq : ∀ {a b : List (List UInt8)}, Sd a → Sd b → a.Perm b → a = b
  | [], b, _, _, h => (List.nil_perm.1 h).symm
  | x :: a, [], _, _, h => by have := h.length_eq; simp at this
  | x :: a, y :: b, ha, hb, h => by
    unfold Sd at ha hb
    rw [List.pairwise_cons] at ha hb
    have hxy : x = y := by
      have hx : x ∈ y :: b := h.mem_iff.1 (by simp)
      have hy : y ∈ x :: a := h.mem_iff.2 (by simp)
      rcases List.mem_cons.1 hx with e | e
      · exact e
      · rcases List.mem_cons.1 hy with e2 | e2
        · exact e2.symm
        · rcases lt_trich x y with q | q | q
          · exact absurd q (hb.1 x e)
          · exact q
          · exact absurd q (ha.1 y e2)
    subst hxy
    rw [Sd_eq ha.2 hb.2 ((List.perm_cons x).1 h)]
end
end L23
end

section
open Go Ab Go.Proofs
namespace L23
set_option autoImplicit false
set_option linter.unusedSimpArgs false
set_option linter.unusedVariables false

/-! ### A node's stream, said plainly -/
abbrev dgt (n : Nat) : UInt8 := UInt8.ofNat (48 + n)
def dg (n : Nat) : List UInt8 := if n < 10 then [dgt n] else if n < 100 then [dgt (n / 10), dgt (n % 10)] else if n < 1000 then [dgt (n / 100), dgt (n / 10 % 10), dgt (n % 10)] else [dgt (n / 1000), dgt (n / 100 % 10), dgt (n / 10 % 10), dgt (n % 10)]
def lineB (c : UInt8) (mode size : Nat) (name : List UInt8) : List UInt8 := c :: dgt (mode / 8) :: dgt (mode % 8) :: 32 :: (dg size ++ 32 :: (name ++ [10]))
def trimS (d : List UInt8) : List UInt8 := if d.drop (d.length - 1) = [47] then d.take (d.length - 1) else d
def joinB (d x : List UInt8) : List UInt8 := trimS d ++ 47 :: x
def kidsR (f : List UInt8 → Int × List UInt8) : List (List UInt8) → Int × List UInt8
  | [] => (0, [])
  | x :: xs => if (f x).1 = 0 then (if (kidsR f xs).1 = 0 then (0, (f x).2 ++ (kidsR f xs).2) else ((kidsR f xs).1, [])) else ((f x).1, [])
def kidR (T : TL) (who : List UInt8) (f : List UInt8 × Nd → Int × List UInt8) (p : List UInt8) : Int × List UInt8 :=
  if findE T who p = 0 then match get T p with
    | some nd => f (p, nd)
    | none => (0, [])
  else (findE T who p, [])
def strR (T : TL) (who : List UInt8) : Nat → List UInt8 × Nd → Int × List UInt8
  | 0, _ => (0, [])
  | d + 1, x =>
    if x.2.dir = true then
      if lsE T who x.1 = 0 then
        if (kidsR (fun y => kidR T who (strR T who d) (joinB x.1 y)) (srt (kids T x.1))).1 = 0 then (0, lineB 68 x.2.mode 0 (base x.1) ++ (kidsR (fun y => kidR T who (strR T who d) (joinB x.1 y)) (srt (kids T x.1))).2 ++ [69, 10])
        else ((kidsR (fun y => kidR T who (strR T who d) (joinB x.1 y)) (srt (kids T x.1))).1, [])
      else (lsE T who x.1, [])
    else if (rdR T who x.1).1 = 0 then (0, lineB 67 x.2.mode (rdR T who x.1).2.length (base x.1) ++ (rdR T who x.1).2 ++ [0])
    else ((rdR T who x.1).1, [])
def srcR (T : TL) (who p : List UInt8) (all : Bool) : Int × List UInt8 :=
  if findE T who p = 0 then
    if p = [47] then (1, []) else match get T p with
    | some nd => if (nd.dir && !all) = true then (113, []) else strR T who 400 (p, nd)
    | none => (0, [])
  else (findE T who p, [])
/-! ### The kids, one by one -/
def catR (f : List UInt8 → Int × List UInt8) (l : List (List UInt8)) : List UInt8 := (l.map fun x => (f x).2).flatten
section
variable {f : List UInt8 → Int × List UInt8}
theorem kidsR_ok : ∀ {l : List (List UInt8)}, (∀ x ∈ l, (f x).1 = 0) → kidsR f l = (0, catR f l)
  | [], _ => rfl
  | x :: xs, h => by
    have h2 := kidsR_ok (l := xs) fun y hy => h y (by simp [hy])
    rw [kidsR, if_pos (h x (by simp)), h2]; simp [catR]
theorem kidsR_bad : ∀ {l : List (List UInt8)} {j : Nat} {x : List UInt8}, (∀ y ∈ l.take j, (f y).1 = 0) → l[j]? = some x → (f x).1 ≠ 0 → kidsR f l = ((f x).1, [])
  | [], j, x, _, h, _ => by simp at h
  | y :: ys, 0, x, _, h, hb => by
    simp at h; subst h
    rw [kidsR, if_neg hb]
  | y :: ys, j + 1, x, h0, h, hb => by
    have h2 := kidsR_bad (l := ys) (j := j) (x := x) (fun z hz => h0 z (by simp [hz])) (by simpa using h) hb
    rw [kidsR, if_pos (h0 y (by simp)), h2, if_neg hb]
theorem catR_succ {l : List (List UInt8)} {j : Nat} {x : List UInt8} (h : l[j]? = some x) : catR f (l.take (j + 1)) = catR f (l.take j) ++ (f x).2 := by
  rw [List.take_add_one, h]; simp [catR]
theorem take_ok {l : List (List UInt8)} {j : Nat} {x : List UInt8} (h0 : ∀ y ∈ l.take j, (f y).1 = 0) (h : l[j]? = some x) (hx : (f x).1 = 0) : ∀ y ∈ l.take (j + 1), (f y).1 = 0 := by
  intro y hy
  rw [List.take_add_one, h] at hy
  rcases List.mem_append.1 hy with hy | hy
  · exact h0 y hy
  · simp at hy; subst hy; exact hx
end
/-! ### Paths -/
theorem splitB_ne : ∀ l : List UInt8, splitB l ≠ []
  | [], h => by have := splitB_length []; rw [h] at this; simp at this
  | x :: l, h => by have := splitB_length (x :: l); rw [h] at this; simp at this
theorem nm_ne {l : List UInt8} (h : nm l = true) : l ≠ [] := by rintro rfl; exact absurd h (by decide)
theorem path_names {p : List UInt8} (h : pathB p = true) (h1 : p ≠ [47]) : ∃ r, p = 47 :: r ∧ (splitB r).length ≤ 6 ∧ ∀ x ∈ splitB r, nm x = true := by
  have h0 := pathB_head h
  obtain ⟨a, r, rfl⟩ : ∃ a r, p = a :: r := by
    cases p with
    | nil => simp at h0
    | cons a r => exact ⟨a, r, rfl⟩
  simp at h0; subst h0
  refine ⟨r, rfl, ?_⟩
  unfold pathB at h
  simp only [Bool.or_eq_true, beq_iff_eq, Bool.and_eq_true, decide_eq_true_eq, List.all_eq_true] at h
  rcases h with h | ⟨⟨_, h2⟩, h3⟩
  · exact absurd h h1
  · have e : (cut47 (47 :: r)).1 = r := by simp [cut47]
    rw [e] at h2 h3
    exact ⟨h2, h3⟩
theorem mem_cut : ∀ {q : List UInt8}, (47 : UInt8) ∈ q → ∃ a b, q = a ++ 47 :: b ∧ (47 : UInt8) ∉ a
  | [], h => by simp at h
  | x :: q, h => by
    by_cases hx : x = 47
    · exact ⟨[], q, by simp [hx], by simp⟩
    · obtain ⟨a, b, e, hn⟩ := mem_cut (q := q) (by simpa [Ne.symm hx] using h)
      exact ⟨x :: a, b, by simp [e], by simp [Ne.symm hx, hn]⟩
theorem split_last {r : List UInt8} (h : r.drop (r.length - 1) = [47]) : [] ∈ splitB r := by
  have e : r = r.take (r.length - 1) ++ [47] := by rw [← h, List.take_append_drop]
  generalize r.take (r.length - 1) = q at e
  subst e
  clear h
  generalize hn : q.length = n
  induction n using Nat.strongRecOn generalizing q with
  | _ n ih =>
    by_cases hm : (47 : UInt8) ∈ q
    · obtain ⟨a, b, rfl, ha⟩ := mem_cut hm
      rw [List.append_assoc, List.cons_append, splitB_cut _ _ ha]
      exact List.mem_cons_of_mem _ (ih b.length (by rw [← hn]; simp; omega) b rfl)
    · rw [splitB_cut _ _ hm]
      have : splitB [] = [[]] := splitB_one [] (by simp)
      simp [this]
theorem trimS_path {p : List UInt8} (h : pathB p = true) (h1 : p ≠ [47]) : trimS p = p := by
  obtain ⟨r, rfl, _, hr⟩ := path_names h h1
  unfold trimS
  rw [if_neg fun e => ?_]
  cases r with
  | nil => exact h1 rfl
  | cons a r =>
    have e2 : (a :: r).drop ((a :: r).length - 1) = [47] := by simpa using e
    exact nm_ne (hr _ (split_last e2)) rfl
theorem trimS_top : trimS [47] = [] := by decide
theorem joinB_path {p x : List UInt8} (h : pathB p = true) (h1 : p ≠ [47]) : joinB p x = p ++ 47 :: x := by unfold joinB; rw [trimS_path h h1]
theorem joinB_top {x : List UInt8} : joinB [47] x = 47 :: x := by unfold joinB; rw [trimS_top]; rfl
/-! ### The document's stream is the program's -/
theorem srt_perm {a b : List (List UInt8)} (h : a.Perm b) : srt a = srt b := Sd_eq (srt_Sd _) (srt_Sd _) (((List.mergeSort_perm _ _).trans h).trans (List.mergeSort_perm _ _).symm)
section
variable {T xs : TL}
theorem RT.kidR (h : RT T xs) (hT : TS T) (who : List UInt8) (f : List UInt8 × Nd → Int × List UInt8) (p : List UInt8) : L23.kidR xs who f p = L23.kidR T who f p := by
  unfold L23.kidR; rw [h.find hT, h.get hT]
theorem RT.srt (h : RT T xs) (hT : TS T) (p : List UInt8) : L23.srt (L23.kids xs p) = L23.srt (L23.kids T p) := srt_perm (h.kids hT p)
theorem RT.str (h : RT T xs) (hT : TS T) (who : List UInt8) : ∀ (d : Nat) (x : List UInt8 × Nd), strR xs who d x = strR T who d x
  | 0, _ => rfl
  | d + 1, x => by
    have e : strR xs who d = strR T who d := funext fun y => RT.str h hT who d y
    simp only [strR, h.ls hT, h.read hT, h.srt hT, h.kidR hT, e]
theorem RT.src (h : RT T xs) (hT : TS T) (who p : List UInt8) (all : Bool) : srcR xs who p all = srcR T who p all := by
  unfold srcR; rw [h.find hT, h.get hT]; simp only [h.str hT]
end
end L23
end

section
open Go Ab Go.Proofs
namespace L23
set_option autoImplicit false
set_option linter.unusedSimpArgs false
set_option linter.unusedVariables false

/-! ### Numbers as digits -/
def smL : List UInt8 := [48, 48, 48, 49, 48, 50, 48, 51, 48, 52, 48, 53, 48, 54, 48, 55, 48, 56, 48, 57, 49, 48, 49, 49, 49, 50, 49, 51, 49, 52, 49, 53, 49, 54, 49, 55, 49, 56, 49, 57, 50, 48, 50, 49, 50, 50, 50, 51, 50, 52, 50, 53, 50, 54, 50, 55, 50, 56, 50, 57, 51, 48, 51, 49, 51, 50, 51, 51, 51, 52, 51, 53, 51, 54, 51, 55, 51, 56, 51, 57, 52, 48, 52, 49, 52, 50, 52, 51, 52, 52, 52, 53, 52, 54, 52, 55, 52, 56, 52, 57, 53, 48, 53, 49, 53, 50, 53, 51, 53, 52, 53, 53, 53, 54, 53, 55, 53, 56, 53, 57, 54, 48, 54, 49, 54, 50, 54, 51, 54, 52, 54, 53, 54, 54, 54, 55, 54, 56, 54, 57, 55, 48, 55, 49, 55, 50, 55, 51, 55, 52, 55, 53, 55, 54, 55, 55, 55, 56, 55, 57, 56, 48, 56, 49, 56, 50, 56, 51, 56, 52, 56, 53, 56, 54, 56, 55, 56, 56, 56, 57, 57, 48, 57, 49, 57, 50, 57, 51, 57, 52, 57, 53, 57, 54, 57, 55, 57, 56, 57, 57]
def dgL : List UInt8 := [48, 49, 50, 51, 52, 53, 54, 55, 56, 57, 97, 98, 99, 100, 101, 102, 103, 104, 105, 106, 107, 108, 109, 110, 111, 112, 113, 114, 115, 116, 117, 118, 119, 120, 121, 122]
def smB : ByteArray := ⟨smL.toArray⟩
def dgB : ByteArray := ⟨dgL.toArray⟩
@[local go_sem high] theorem fold_sm : (⟨#[48, 48, 48, 49, 48, 50, 48, 51, 48, 52, 48, 53, 48, 54, 48, 55, 48, 56, 48, 57, 49, 48, 49, 49, 49, 50, 49, 51, 49, 52, 49, 53, 49, 54, 49, 55, 49, 56, 49, 57, 50, 48, 50, 49, 50, 50, 50, 51, 50, 52, 50, 53, 50, 54, 50, 55, 50, 56, 50, 57, 51, 48, 51, 49, 51, 50, 51, 51, 51, 52, 51, 53, 51, 54, 51, 55, 51, 56, 51, 57, 52, 48, 52, 49, 52, 50, 52, 51, 52, 52, 52, 53, 52, 54, 52, 55, 52, 56, 52, 57, 53, 48, 53, 49, 53, 50, 53, 51, 53, 52, 53, 53, 53, 54, 53, 55, 53, 56, 53, 57, 54, 48, 54, 49, 54, 50, 54, 51, 54, 52, 54, 53, 54, 54, 54, 55, 54, 56, 54, 57, 55, 48, 55, 49, 55, 50, 55, 51, 55, 52, 55, 53, 55, 54, 55, 55, 55, 56, 55, 57, 56, 48, 56, 49, 56, 50, 56, 51, 56, 52, 56, 53, 56, 54, 56, 55, 56, 56, 56, 57, 57, 48, 57, 49, 57, 50, 57, 51, 57, 52, 57, 53, 57, 54, 57, 55, 57, 56, 57, 57]⟩ : ByteArray) = smB := rfl
@[local go_sem high] theorem fold_dg : (⟨#[48, 49, 50, 51, 52, 53, 54, 55, 56, 57, 97, 98, 99, 100, 101, 102, 103, 104, 105, 106, 107, 108, 109, 110, 111, 112, 113, 114, 115, 116, 117, 118, 119, 120, 121, 122]⟩ : ByteArray) = dgB := rfl
theorem len8_eq : Lib.len8tab = ⟨Lib.len8tab.data.toList.toArray⟩ := rfl
theorem dg_ix : ∀ n : Fin 10, ((dgL.take (n.val + 1)).drop n.val) = dg n.val := by decide
theorem sm_ix : ∀ n : Fin 100, 10 ≤ n.val → ((smL.take (n.val * 2 + 2)).drop (n.val * 2)) = dg n.val := by decide
theorem sm_lo : ∀ n : Fin 100, smL[n.val * 2]? = some (dgt (n.val / 10)) := by decide
theorem sm_hi : ∀ n : Fin 100, smL[n.val * 2 + 1]? = some (dgt (n.val % 10)) := by decide
theorem smB_at {i : Nat} {c : UInt8} {kd : IntKind} (h : smL[i]? = some c) : indexP Tryz.prog 9 (.string smB) (.int kd i) = some (.int .u8 c.toNat) := by
  obtain ⟨hi, e⟩ := List.getElem?_eq_some_iff.1 h
  rw [← e]; exact str_index Tryz.underlying9 hi
set_option maxRecDepth 10000 in
theorem len8_ix : ∀ n : Fin 256, Lib.len8tab.data.toList[n.val]? = some (if n.val < 1 then 0 else if n.val < 2 then 1 else if n.val < 4 then 2 else if n.val < 8 then 3 else if n.val < 16 then 4 else if n.val < 32 then 5 else if n.val < 64 then 6 else if n.val < 128 then 7 else 8) := by decide +kernel
theorem len8_at {i : Nat} {c : UInt8} {kd : IntKind} (h : Lib.len8tab.data.toList[i]? = some c) : indexP Tryz.prog 9 (.string Lib.len8tab) (.int kd i) = some (.int .u8 c.toNat) := by
  obtain ⟨hi, e⟩ := List.getElem?_eq_some_iff.1 h
  rw [← e]; exact str_index Tryz.underlying9 hi
set_option maxRecDepth 10000 in
theorem small_calls {h : AHeap} {n : Nat} (hn : n < 100) : ACalls Tryz.prog 129 #[.int .i64 n] h fun r h' => r = tx (dg n) ∧ h' = h := by
  refine ACalls.of_awp (args := [.int .i64 n]) (n := 15) Tryz.func129 rfl rfl (by show 1 ≤ 15; omega) ?_
  have w1 : IntKind.i64.wrap ((n : Int) + 1) = ((n + 1 : Nat) : Int) := by rw [wI64 (by omega) (by omega)]; omega
  have w2 : IntKind.i64.wrap ((n : Int) * 2) = ((n * 2 : Nat) : Int) := by rw [wI64 (by omega) (by omega)]; omega
  have w3 : IntKind.i64.wrap (((n * 2 : Nat) : Int) + 2) = ((n * 2 + 2 : Nat) : Int) := by rw [wI64 (by omega) (by omega)]; omega
  by_cases h1 : n < 10
  · have h1' : (n : Int) < 10 := by omega
    have s1 : sliceR Tryz.prog h 9 (.string dgB) (some (.int .i64 n)) (some (.int .i64 ((n + 1 : Nat) : Int))) none = some (tx (dg n)) := by
      have := str_slice (P := Tryz.prog) (h := h) Tryz.underlying9 (l := dgL) (lo := n) (hi := n + 1) (a := some (.int .i64 n)) (u := some (.int .i64 ((n + 1 : Nat) : Int))) (by omega) (by show _ ≤ 36; omega) (.inr ⟨_, rfl⟩) (.inr ⟨_, rfl⟩)
      rw [dg_ix ⟨n, h1⟩] at this; exact this
    rw [← w1] at s1
    (repeat' first
      | refine AWP.seq ?_
      | refine AWP.block ?_
      | (refine AWP.skip ?_; try dsimp only [thn, inBlk])
      | (refine AWP.exit ?_; try simp only [thn, inBlk, if_true, reduceIte, Nat.reduceEqDiff])
      | (refine AWP.ret ?_; try dsimp only [thn, inBlk])
      | (refine AWP.condT ?_ ?_; (focus (simp [go_sem, h1', s1]; done)))
      | (refine AWP.condF ?_ ?_; (focus (simp [go_sem, h1', s1]; done)))
      | (apply AWP.rE; (focus (simp [go_sem, h1', s1]; exact ⟨rfl, rfl⟩)); try dsimp only [thn, inBlk])
      | fail)
    simp [bodyQ, thn, inBlk, resA, resV, go_sem]
  · have h1' : ¬ (n : Int) < 10 := by omega
    have s1 : sliceR Tryz.prog h 9 (.string smB) (some (.int .i64 ((n * 2 : Nat) : Int))) (some (.int .i64 ((n * 2 + 2 : Nat) : Int))) none = some (tx (dg n)) := by
      have := str_slice (P := Tryz.prog) (h := h) Tryz.underlying9 (l := smL) (lo := n * 2) (hi := n * 2 + 2) (a := some (.int .i64 ((n * 2 : Nat) : Int))) (u := some (.int .i64 ((n * 2 + 2 : Nat) : Int))) (by omega) (by show _ ≤ 200; omega) (.inr ⟨_, rfl⟩) (.inr ⟨_, rfl⟩)
      rw [sm_ix ⟨n, hn⟩ (by simp; omega)] at this; exact this
    rw [← w3, ← w2] at s1
    (repeat' first
      | refine AWP.seq ?_
      | refine AWP.block ?_
      | (refine AWP.skip ?_; try dsimp only [thn, inBlk])
      | (refine AWP.exit ?_; try simp only [thn, inBlk, if_true, reduceIte, Nat.reduceEqDiff])
      | (refine AWP.ret ?_; try dsimp only [thn, inBlk])
      | (refine AWP.condT ?_ ?_; (focus (simp [go_sem, h1', s1]; done)))
      | (refine AWP.condF ?_ ?_; (focus (simp [go_sem, h1', s1]; done)))
      | (apply AWP.rE; (focus (simp [go_sem, h1', s1]; exact ⟨rfl, rfl⟩)); try dsimp only [thn, inBlk])
      | fail)
    simp [bodyQ, thn, inBlk, resA, resV, go_sem]
theorem len_calls {h : AHeap} {n : Nat} (hn : n ≤ 1000) (h0 : 100 ≤ n) : ACalls Tryz.prog 98 #[.int .u64 n] h fun r h' => r = .int .i64 (if n < 128 then 7 else if n < 256 then 8 else if n < 512 then 9 else 10 : Nat) ∧ h' = h := by
  refine ACalls.of_awp (args := [.int .u64 n]) (n := 25) Tryz.func98 rfl rfl (by show 1 ≤ 25; omega) ?_
  have g1 : ¬ (4294967296 : Int) ≤ n := by omega
  have v7 : IntKind.i64.wrap 7 = 7 := by decide
  have v8 : IntKind.i64.wrap 8 = 8 := by decide
  have v9 : IntKind.i64.wrap 9 = 9 := by decide
  have v10 : IntKind.i64.wrap 10 = 10 := by decide
  have v1 : IntKind.i64.wrap 1 = 1 := by decide
  have v2 : IntKind.i64.wrap 2 = 2 := by decide
  have g2 : ¬ (65536 : Int) ≤ n := by omega
  by_cases h1 : n < 256
  · have g3 : ¬ (256 : Int) ≤ n := by omega
    have w1 : IntKind.u8.wrap (n : Int) = n := by rw [wU8 (by omega) (by omega)]
    obtain ⟨c, hc⟩ : ∃ c : UInt8, Lib.len8tab.data.toList[n]? = some c := ⟨_, len8_ix ⟨n, h1⟩⟩
    have hc' := (len8_ix ⟨n, h1⟩).symm.trans hc
    have hx := len8_at (kd := .u8) hc
    have hcn : c.toNat = if n < 128 then 7 else 8 := by
      rw [← Option.some.inj hc']
      simp only []
      repeat' split
      all_goals first | rfl | omega
    rw [hcn] at hx
    by_cases h2 : n < 128
    · rw [if_pos h2] at hx ⊢
      (repeat' first
        | refine AWP.seq ?_
        | refine AWP.block ?_
        | (refine AWP.skip ?_; try dsimp only [thn, inBlk])
        | (refine AWP.exit ?_; try simp only [thn, inBlk, if_true, reduceIte, Nat.reduceEqDiff])
        | (refine AWP.ret ?_; try dsimp only [thn, inBlk])
        | (refine AWP.condT ?_ ?_; (focus (simp [go_sem, g1, g2, g3, w1, hx]; done)))
        | (refine AWP.condF ?_ ?_; (focus (simp [go_sem, g1, g2, g3, w1, hx]; done)))
        | (apply AWP.rE; (focus (simp [go_sem, g1, g2, g3, w1, hx]; exact ⟨rfl, rfl⟩)); try dsimp only [thn, inBlk])
        | fail)
      simp [bodyQ, thn, inBlk, resA, resV, go_sem, v7, v8]
    · rw [if_neg h2] at hx ⊢
      rw [if_pos h1]
      (repeat' first
        | refine AWP.seq ?_
        | refine AWP.block ?_
        | (refine AWP.skip ?_; try dsimp only [thn, inBlk])
        | (refine AWP.exit ?_; try simp only [thn, inBlk, if_true, reduceIte, Nat.reduceEqDiff])
        | (refine AWP.ret ?_; try dsimp only [thn, inBlk])
        | (refine AWP.condT ?_ ?_; (focus (simp [go_sem, g1, g2, g3, w1, hx]; done)))
        | (refine AWP.condF ?_ ?_; (focus (simp [go_sem, g1, g2, g3, w1, hx]; done)))
        | (apply AWP.rE; (focus (simp [go_sem, g1, g2, g3, w1, hx]; exact ⟨rfl, rfl⟩)); try dsimp only [thn, inBlk])
        | fail)
      simp [bodyQ, thn, inBlk, resA, resV, go_sem, v7, v8]
  · have g3 : (256 : Int) ≤ n := by omega
    have w0 : (n : Int).fdiv 256 = ((n / 256 : Nat) : Int) := by rw [Int.fdiv_eq_ediv_of_nonneg _ (by omega)]; omega
    have w1 : IntKind.u8.wrap ((n / 256 : Nat) : Int) = ((n / 256 : Nat) : Int) := by rw [wU8 (by omega) (by omega)]
    obtain ⟨c, hc⟩ : ∃ c : UInt8, Lib.len8tab.data.toList[n / 256]? = some c := ⟨_, len8_ix ⟨n / 256, by omega⟩⟩
    have hc' := (len8_ix ⟨n / 256, by omega⟩).symm.trans hc
    have hx := len8_at (kd := .u8) hc
    have hcn : c.toNat = if n < 512 then 1 else 2 := by
      rw [← Option.some.inj hc']
      simp only []
      repeat' split
      all_goals first | rfl | omega
    rw [hcn] at hx
    rw [if_neg (by omega : ¬ n < 128), if_neg h1]
    clear hc hc' hcn
    generalize n / 256 = q at *
    by_cases h2 : n < 512
    · rw [if_pos h2] at hx ⊢
      (repeat' first
        | refine AWP.seq ?_
        | refine AWP.block ?_
        | (refine AWP.skip ?_; try dsimp only [thn, inBlk])
        | (refine AWP.exit ?_; try simp only [thn, inBlk, if_true, reduceIte, Nat.reduceEqDiff])
        | (refine AWP.ret ?_; try dsimp only [thn, inBlk])
        | (refine AWP.condT ?_ ?_; (focus (simp [go_sem, g1, g2, g3, w0, w1, hx]; done)))
        | (refine AWP.condF ?_ ?_; (focus (simp [go_sem, g1, g2, g3, w0, w1, hx]; done)))
        | (apply AWP.rE; (focus (simp [go_sem, g1, g2, g3, w0, w1, hx]; exact ⟨rfl, rfl⟩)); try dsimp only [thn, inBlk])
        | fail)
      simp [bodyQ, thn, inBlk, resA, resV, go_sem, v1, v2, v8, v9, v10]
    · rw [if_neg h2] at hx ⊢
      (repeat' first
        | refine AWP.seq ?_
        | refine AWP.block ?_
        | (refine AWP.skip ?_; try dsimp only [thn, inBlk])
        | (refine AWP.exit ?_; try simp only [thn, inBlk, if_true, reduceIte, Nat.reduceEqDiff])
        | (refine AWP.ret ?_; try dsimp only [thn, inBlk])
        | (refine AWP.condT ?_ ?_; (focus (simp [go_sem, g1, g2, g3, w0, w1, hx]; done)))
        | (refine AWP.condF ?_ ?_; (focus (simp [go_sem, g1, g2, g3, w0, w1, hx]; done)))
        | (apply AWP.rE; (focus (simp [go_sem, g1, g2, g3, w0, w1, hx]; exact ⟨rfl, rfl⟩)); try dsimp only [thn, inBlk])
        | fail)
      simp [bodyQ, thn, inBlk, resA, resV, go_sem, v1, v2, v8, v9, v10]
theorem log_calls {h : AHeap} {n : Nat} (hn : n ≤ 10) : ACalls Tryz.prog 148 #[.int .i64 n] h fun r h' => r = .int .i64 (n * 78913 / 262144 : Nat) ∧ h' = h := by
  refine ACalls.of_awp (args := [.int .i64 n]) (n := 6) Tryz.func148 rfl rfl (by show 1 ≤ 6; omega) ?_
  have w1 : IntKind.i64.wrap ((n : Int) * 78913) = ((n * 78913 : Nat) : Int) := by rw [wI64 (by omega) (by omega)]; omega
  have w2 : ((n * 78913 : Nat) : Int).fdiv 262144 = ((n * 78913 / 262144 : Nat) : Int) := by rw [Int.fdiv_eq_ediv_of_nonneg _ (by omega)]; omega
  (repeat' first
    | refine AWP.seq ?_
    | refine AWP.block ?_
    | (refine AWP.skip ?_; try dsimp only [thn, inBlk])
    | (refine AWP.exit ?_; try simp only [thn, inBlk, if_true, reduceIte, Nat.reduceEqDiff])
    | (refine AWP.ret ?_; try dsimp only [thn, inBlk])
    | (refine AWP.condT ?_ ?_; (focus (simp [go_sem, w1, w2]; done)))
    | (refine AWP.condF ?_ ?_; (focus (simp [go_sem, w1, w2]; done)))
    | (apply AWP.rE; (focus (simp [go_sem, w1, w2]; exact ⟨rfl, rfl⟩)); try dsimp only [thn, inBlk])
    | fail)
  simp [bodyQ, thn, inBlk, resA, resV, go_sem]
  exact Int.fdiv_eq_ediv_of_nonneg _ (by omega)
theorem bool2_calls {h : AHeap} {b : Bool} : ACalls Tryz.prog 149 #[.bool b] h fun r h' => r = .int .i64 (if b then 1 else 0 : Nat) ∧ h' = h := by
  refine ACalls.of_awp (args := [.bool b]) (n := 4) Tryz.func149 rfl rfl (by show 1 ≤ 4; omega) ?_
  cases b
  · (repeat' first
      | refine AWP.seq ?_
      | refine AWP.block ?_
      | (refine AWP.skip ?_; try dsimp only [thn, inBlk])
      | (refine AWP.exit ?_; try simp only [thn, inBlk, if_true, reduceIte, Nat.reduceEqDiff])
      | (refine AWP.ret ?_; try dsimp only [thn, inBlk])
      | (refine AWP.condT ?_ ?_; (focus (simp [go_sem]; done)))
      | (refine AWP.condF ?_ ?_; (focus (simp [go_sem]; done)))
      | (apply AWP.rE; (focus (simp [go_sem]; exact ⟨rfl, rfl⟩)); try dsimp only [thn, inBlk])
      | fail)
    simp [bodyQ, thn, inBlk, resA, resV, go_sem]
  · (repeat' first
      | refine AWP.seq ?_
      | refine AWP.block ?_
      | (refine AWP.skip ?_; try dsimp only [thn, inBlk])
      | (refine AWP.exit ?_; try simp only [thn, inBlk, if_true, reduceIte, Nat.reduceEqDiff])
      | (refine AWP.ret ?_; try dsimp only [thn, inBlk])
      | (refine AWP.condT ?_ ?_; (focus (simp [go_sem]; done)))
      | (refine AWP.condF ?_ ?_; (focus (simp [go_sem]; done)))
      | (apply AWP.rE; (focus (simp [go_sem]; exact ⟨rfl, rfl⟩)); try dsimp only [thn, inBlk])
      | fail)
    simp [bodyQ, thn, inBlk, resA, resV, go_sem]
end L23
end

section
open Go Ab Go.Proofs
namespace L23
set_option autoImplicit false
set_option linter.unusedSimpArgs false
set_option linter.unusedVariables false
attribute [local go_sem high] fold_sm fold_dg
/-- The table of Go's library that is read. -/
def pw : List Value := [.int .u64 1, .int .u64 10, .int .u64 100, .int .u64 1000, .int .u64 10000, .int .u64 100000, .int .u64 1000000, .int .u64 10000000, .int .u64 100000000, .int .u64 1000000000, .int .u64 10000000000, .int .u64 100000000000, .int .u64 1000000000000, .int .u64 10000000000000, .int .u64 100000000000000, .int .u64 1000000000000000, .int .u64 10000000000000000, .int .u64 100000000000000000, .int .u64 1000000000000000000, .int .u64 10000000000000000000]
structure GP (O : Old) : Prop where
  b : 1 < O.base
  o : ∃ e, O.obj 1 = some (.row pw e 1 true true)
theorem GP.at_ {O : Old} {h : AHeap} {L : List Chunk} (g : GP O) (k : Own O h L) : 1 < h.base ∧ ∃ e, h.obj 1 = some (.row pw e 1 true true) := by
  obtain ⟨e, he⟩ := g.o
  exact ⟨by rw [k.base]; exact g.b, e, by rw [k.old 1 g.b]; exact he⟩
section
variable {O : Old} {h : AHeap} {R : List Chunk}
theorem nd_calls {n : Nat} (g : GP O) (k : Own O h R) (hn : n ≤ 1000) (h0 : 100 ≤ n) : ACalls Tryz.prog 130 #[.int .u64 n] h fun r h' => r = .int .i64 (if n < 1000 then 3 else 4 : Nat) ∧ h' = h := by
  refine ACalls.of_awp (args := [.int .u64 n]) (n := 15) Tryz.func130 rfl rfl (by show 1 ≤ 15; omega) ?_
  obtain ⟨hb, e, ho⟩ := g.at_ k
  (repeat' first
    | refine AWP.seq ?_
    | refine AWP.block ?_
    | (refine AWP.skip ?_; try dsimp only [thn, inBlk])
    | (refine AWP.exit ?_; try simp only [thn, inBlk, if_true, reduceIte, Nat.reduceEqDiff])
    | (refine AWP.ret ?_; try dsimp only [thn, inBlk])
    | (refine AWP.condT ?_ ?_; (focus (simp [go_sem]; done)))
    | (refine AWP.condF ?_ ?_; (focus (simp [go_sem]; done)))
    | (apply AWP.rE; (focus (simp [go_sem]; exact ⟨rfl, rfl⟩)); try dsimp only [thn, inBlk])
    | fail)
  refine AWP.callE (by simp [go_sem]; exact ⟨rfl, rfl, rfl, rfl, rfl⟩) (by kernel_rfl) ?_
  refine (len_calls hn h0).mono ?_
  rintro r h1 ⟨rfl, rfl⟩
  refine awpL_toCall (by simp [go_sem]; exact ⟨rfl, rfl, rfl, rfl, rfl⟩) (by kernel_rfl) ?_
  refine (log_calls (by split; omega; split; omega; split <;> omega)).mono ?_
  rintro r h1 ⟨rfl, rfl⟩
  have e1 : (if n < 128 then 7 else if n < 256 then 8 else if n < 512 then 9 else 10) * 78913 / 262144 = if n < 512 then 2 else 3 := by
    by_cases a1 : n < 128
    · rw [if_pos a1, if_pos (by omega)]
    · rw [if_neg a1]
      by_cases a2 : n < 256
      · rw [if_pos a2, if_pos (by omega)]
      · rw [if_neg a2]
        by_cases a3 : n < 512
        · rw [if_pos a3, if_pos a3]
        · rw [if_neg a3, if_neg a3]
  have c2 : pw[2]? = some (.int .u64 100) := rfl
  have c3 : pw[3]? = some (.int .u64 1000) := rfl
  by_cases a3 : n < 512
  · have a4 : (100 : Int) ≤ n := by omega
    have e2 := e1.trans (if_pos a3)
    rw [e2, if_pos (by omega : n < 1000)]
    refine awpL_restE (by simp [go_sem]; exact ⟨rfl, rfl⟩) ?_; try dsimp only [thn, inBlk]
    (repeat' first
      | refine AWP.seq ?_
      | refine AWP.block ?_
      | (refine AWP.skip ?_; try dsimp only [thn, inBlk])
      | (refine AWP.exit ?_; try simp only [thn, inBlk, if_true, reduceIte, Nat.reduceEqDiff])
      | (refine AWP.ret ?_; try dsimp only [thn, inBlk])
      | (refine AWP.condT ?_ ?_; (focus (simp [go_sem]; done)))
      | (refine AWP.condF ?_ ?_; (focus (simp [go_sem]; done)))
      | (apply AWP.rE; (focus (simp [go_sem]; exact ⟨rfl, rfl⟩)); try dsimp only [thn, inBlk])
      | fail)
    refine AWP.callE (by simp [go_sem, hb, ho, c2, a4]; exact ⟨rfl, rfl, rfl, rfl, rfl⟩) (by kernel_rfl) ?_
    refine bool2_calls.mono ?_
    rintro r h2 ⟨rfl, rfl⟩
    have v3 : IntKind.i64.wrap 3 = 3 := by decide
    refine awpL_restE (by simp [go_sem]; exact ⟨rfl, rfl⟩) ?_; try dsimp only [thn, inBlk]
    (repeat' first
      | refine AWP.seq ?_
      | refine AWP.block ?_
      | (refine AWP.skip ?_; try dsimp only [thn, inBlk])
      | (refine AWP.exit ?_; try simp only [thn, inBlk, if_true, reduceIte, Nat.reduceEqDiff])
      | (refine AWP.ret ?_; try dsimp only [thn, inBlk])
      | (refine AWP.condT ?_ ?_; (focus (simp [go_sem]; done)))
      | (refine AWP.condF ?_ ?_; (focus (simp [go_sem]; done)))
      | (apply AWP.rE; (focus (simp [go_sem]; exact ⟨rfl, rfl⟩)); try dsimp only [thn, inBlk])
      | fail)
    simp [bodyQ, thn, inBlk, resA, resV, go_sem, v3]
  · have e2 := e1.trans (if_neg a3)
    rw [e2]
    by_cases a5 : n < 1000
    · have a4 : ¬ (1000 : Int) ≤ n := by omega
      have v3 : IntKind.i64.wrap 3 = 3 := by decide
      rw [if_pos a5]
      refine awpL_restE (by simp [go_sem]; exact ⟨rfl, rfl⟩) ?_; try dsimp only [thn, inBlk]
      (repeat' first
        | refine AWP.seq ?_
        | refine AWP.block ?_
        | (refine AWP.skip ?_; try dsimp only [thn, inBlk])
        | (refine AWP.exit ?_; try simp only [thn, inBlk, if_true, reduceIte, Nat.reduceEqDiff])
        | (refine AWP.ret ?_; try dsimp only [thn, inBlk])
        | (refine AWP.condT ?_ ?_; (focus (simp [go_sem]; done)))
        | (refine AWP.condF ?_ ?_; (focus (simp [go_sem]; done)))
        | (apply AWP.rE; (focus (simp [go_sem]; exact ⟨rfl, rfl⟩)); try dsimp only [thn, inBlk])
        | fail)
      refine AWP.callE (by simp [go_sem, hb, ho, c3, a4]; exact ⟨rfl, rfl, rfl, rfl, rfl⟩) (by kernel_rfl) ?_
      refine bool2_calls.mono ?_
      rintro r h2 ⟨rfl, rfl⟩
      refine awpL_restE (by simp [go_sem]; exact ⟨rfl, rfl⟩) ?_; try dsimp only [thn, inBlk]
      (repeat' first
        | refine AWP.seq ?_
        | refine AWP.block ?_
        | (refine AWP.skip ?_; try dsimp only [thn, inBlk])
        | (refine AWP.exit ?_; try simp only [thn, inBlk, if_true, reduceIte, Nat.reduceEqDiff])
        | (refine AWP.ret ?_; try dsimp only [thn, inBlk])
        | (refine AWP.condT ?_ ?_; (focus (simp [go_sem]; done)))
        | (refine AWP.condF ?_ ?_; (focus (simp [go_sem]; done)))
        | (apply AWP.rE; (focus (simp [go_sem]; exact ⟨rfl, rfl⟩)); try dsimp only [thn, inBlk])
        | fail)
      simp [bodyQ, thn, inBlk, resA, resV, go_sem, v3]
    · have a4 : (1000 : Int) ≤ n := by omega
      have v4 : IntKind.i64.wrap 4 = 4 := by decide
      rw [if_neg a5]
      refine awpL_restE (by simp [go_sem]; exact ⟨rfl, rfl⟩) ?_; try dsimp only [thn, inBlk]
      (repeat' first
        | refine AWP.seq ?_
        | refine AWP.block ?_
        | (refine AWP.skip ?_; try dsimp only [thn, inBlk])
        | (refine AWP.exit ?_; try simp only [thn, inBlk, if_true, reduceIte, Nat.reduceEqDiff])
        | (refine AWP.ret ?_; try dsimp only [thn, inBlk])
        | (refine AWP.condT ?_ ?_; (focus (simp [go_sem]; done)))
        | (refine AWP.condF ?_ ?_; (focus (simp [go_sem]; done)))
        | (apply AWP.rE; (focus (simp [go_sem]; exact ⟨rfl, rfl⟩)); try dsimp only [thn, inBlk])
        | fail)
      refine AWP.callE (by simp [go_sem, hb, ho, c3, a4]; exact ⟨rfl, rfl, rfl, rfl, rfl⟩) (by kernel_rfl) ?_
      refine bool2_calls.mono ?_
      rintro r h2 ⟨rfl, rfl⟩
      refine awpL_restE (by simp [go_sem]; exact ⟨rfl, rfl⟩) ?_; try dsimp only [thn, inBlk]
      (repeat' first
        | refine AWP.seq ?_
        | refine AWP.block ?_
        | (refine AWP.skip ?_; try dsimp only [thn, inBlk])
        | (refine AWP.exit ?_; try simp only [thn, inBlk, if_true, reduceIte, Nat.reduceEqDiff])
        | (refine AWP.ret ?_; try dsimp only [thn, inBlk])
        | (refine AWP.condT ?_ ?_; (focus (simp [go_sem]; done)))
        | (refine AWP.condF ?_ ?_; (focus (simp [go_sem]; done)))
        | (apply AWP.rE; (focus (simp [go_sem]; exact ⟨rfl, rfl⟩)); try dsimp only [thn, inBlk])
        | fail)
      simp [bodyQ, thn, inBlk, resA, resV, go_sem, v4]
end
end L23
end

