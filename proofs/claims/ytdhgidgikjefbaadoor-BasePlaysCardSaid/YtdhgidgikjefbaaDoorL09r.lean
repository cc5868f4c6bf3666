import Derived.Test.YtdhgidgikjefbaaDoorL09q
import Derived.Test.YtdhgidgikjefbaaDoorL09l
open Go Ab Go.Proofs
namespace L09
set_option autoImplicit false
set_option linter.unusedSimpArgs false
set_option linter.unusedVariables false

/-! ### The document's entries are the program's -/
theorem pairwise_get {α : Type} {r : α → α → Prop} {l : List α} (h : l.Pairwise r) {i j : Nat} {a b : α} (hi : l[i]? = some a) (hj : l[j]? = some b) (hij : i < j) : r a b := by
  obtain ⟨h1, e1⟩ := List.getElem?_eq_some_iff.1 hi
  obtain ⟨h2, e2⟩ := List.getElem?_eq_some_iff.1 hj
  rw [← e1, ← e2]
  exact List.pairwise_iff_getElem.1 h i j h1 h2 hij
theorem srt_lt {l : List (List UInt8)} (h : l.Nodup) : (srt l).Pairwise fun a b => a < b := by
  have tr : ∀ a b c : List UInt8, leB a b = true → leB b c = true → leB a c = true := fun a b c h1 h2 => by simp only [leB, decide_eq_true_eq] at *; exact List.le_trans h1 h2
  have to : ∀ a b : List UInt8, (leB a b || leB b a) = true := fun a b => by simp only [leB, Bool.or_eq_true, decide_eq_true_eq]; exact List.le_total a b
  have h1 := List.pairwise_mergeSort tr to l
  have h2 : (l.mergeSort leB).Nodup := (List.mergeSort_perm l leB).nodup_iff.2 h
  have h3 := h1.and h2
  refine h3.imp fun {a b} ⟨q1, q2⟩ => ?_
  simp only [leB, decide_eq_true_eq] at q1
  by_cases e : a < b
  · exact e
  · exact absurd (List.le_antisymm q1 (List.not_lt.1 e)) q2
abbrev ltE (a b : En) : Prop := a.nm < b.nm
/-- Two rising lists of the same members are one. -/
theorem rise_eq : ∀ {a b : List En}, a.Pairwise ltE → b.Pairwise ltE → (∀ x, x ∈ a ↔ x ∈ b) → a = b
  | [], [], _, _, _ => rfl
  | [], y :: b, _, _, h => absurd ((h y).2 (by simp)) (by simp)
  | x :: a, [], _, _, h => absurd ((h x).1 (by simp)) (by simp)
  | x :: a, y :: b, ha, hb, h => by
    rw [List.pairwise_cons] at ha hb
    have hxy : x = y := by
      rcases List.mem_cons.1 ((h x).1 (by simp)) with e | e
      · exact e
      · rcases List.mem_cons.1 ((h y).2 (by simp)) with e2 | e2
        · exact e2.symm
        · exact absurd (hb.1 x e) (List.lt_asymm (ha.1 y e2))
    subst hxy
    rw [rise_eq ha.2 hb.2 fun z => ?_]
    have nx : ∀ {l : List En}, (∀ z ∈ l, ltE x z) → x ∉ l := fun hl hm => List.lt_irrefl _ (hl x hm)
    have hz := h z
    simp only [List.mem_cons] at hz
    by_cases e : z = x
    · subst e; exact ⟨fun q => absurd q (nx ha.1), fun q => absurd q (nx hb.1)⟩
    · simpa [e] using hz
structure RS (L : BL) (es : List En) : Prop where
  so : es.Pairwise ltE
  me : ∀ e, e ∈ es ↔ (e.nm, e) ∈ L
theorem RS.nil : RS [] [] := ⟨List.Pairwise.nil, by simp⟩
section
variable {L : BL} {es : List En}
theorem look_of {x : List UInt8 × En} (hI : BI L) (hx : x ∈ L) : look1 L x.1 = x.2 := by simp [look1, get_of_mem hI.nd hx]
theorem RS.same (h : RS L es) (hI : BI L) : es = listL L := by
  have hp : (srt (L.map (·.1))).Perm (L.map (·.1)) := List.mergeSort_perm _ _
  have key : ∀ p ∈ srt (L.map (·.1)), (look1 L p).nm = p ∧ (p, look1 L p) ∈ L := fun p hp1 => by
    obtain ⟨y, hy, rfl⟩ := List.mem_map.1 (hp.mem_iff.1 hp1)
    rw [look_of hI hy]; exact ⟨hI.kn y hy, hy⟩
  refine rise_eq h.so ?_ fun e => ?_
  · rw [listL, List.pairwise_map]
    refine (srt_lt hI.nd).imp_of_mem fun {a b} ha hb q => ?_
    show (look1 L a).nm < (look1 L b).nm
    rw [(key a ha).1, (key b hb).1]; exact q
  · rw [h.me]
    constructor
    · intro hm
      have q : look1 L e.nm = e := look_of hI hm
      exact List.mem_map.2 ⟨e.nm, hp.mem_iff.2 (List.mem_map.2 ⟨_, hm, rfl⟩), q⟩
    · intro hm
      obtain ⟨p, hp1, rfl⟩ := List.mem_map.1 hm
      rw [(key p hp1).1]; exact (key p hp1).2
theorem RS.len (h : RS L es) (hI : BI L) : es.length = L.length := by
  rw [h.same hI, listL_len]
theorem get_mem {n : List UInt8} {e : En} (hI : BI L) (h : get L n = some e) : e.nm = n ∧ (n, e) ∈ L := by
  obtain ⟨j, hj, _⟩ := get_some h
  have hm := List.mem_of_getElem? hj
  exact ⟨hI.kn _ hm, hm⟩
theorem RS.fnd (h : RS L es) (hI : BI L) (n : List UInt8) : es.find? (fun e => e.nm == n) = get L n := by
  cases hg : get L n with
  | none =>
    rw [List.find?_eq_none]
    intro x hx hn
    simp only [beq_iff_eq] at hn
    exact get_none hg _ ((h.me x).1 hx) hn
  | some e =>
    obtain ⟨hn, hm⟩ := get_mem hI hg
    have he : e ∈ es := (h.me e).2 (by rw [hn]; exact hm)
    cases hf : es.find? (fun e => e.nm == n) with
    | none =>
      rw [List.find?_eq_none] at hf
      exact absurd (by simpa using hn) (hf e he)
    | some x =>
      have h1 := List.mem_of_find?_eq_some hf
      have h2 := List.find?_some hf
      simp only [beq_iff_eq] at h2
      have h3 := get_of_mem hI.nd ((h.me x).1 h1)
      dsimp only at h3
      rw [h2, hg] at h3
      exact h3.symm
theorem RS.getE (h : RS L es) (hI : BI L) (n : List UInt8) : getS es n = L09.getR L n := by
  unfold getS L09.getR
  rw [h.fnd hI]
  cases get L n <;> rfl
theorem RS.isS (h : RS L es) (hI : BI L) (n : List UInt8) : (idxE es n).isSome = (get L n).isSome := by
  rw [← h.fnd hI, find_idx]
  cases hi : idxE es n with
  | none => rfl
  | some j =>
    obtain ⟨e, he, _⟩ := idx_some hi
    simp [he]
theorem RS.uniq (h : RS L es) {j k : Nat} {a b : En} (hj : es[j]? = some a) (hk : es[k]? = some b) (hn : a.nm = b.nm) : j = k := by
  rcases Nat.lt_trichotomy j k with q | q | q
  · have := pairwise_get h.so hj hk q
    exact absurd (by show a.nm < a.nm; conv => rhs; rw [hn]
                     exact this) (List.lt_irrefl a.nm)
  · exact q
  · have := pairwise_get h.so hk hj q
    exact absurd (by show b.nm < b.nm; conv => rhs; rw [← hn]
                     exact this) (List.lt_irrefl b.nm)
theorem RS.dropE (h : RS L es) (hI : BI L) (n : List UInt8) : RS (dropT L n) (dropS es n) := by
  have hme : ∀ x : En, (x.nm, x) ∈ dropT L n ↔ x ∈ es ∧ x.nm ≠ n := fun x => by
    rw [dropT, List.mem_filter, ← h.me]; simp
  cases hi : idxE es n with
  | none =>
    have e2 : dropS es n = es := by simp only [dropS, hi]
    rw [e2]
    refine ⟨h.so, fun e => ?_⟩
    rw [hme]
    refine ⟨fun q => ⟨q, fun hn => ?_⟩, fun q => q.1⟩
    unfold idxE at hi
    rw [List.findIdx?_eq_none_iff] at hi
    have := hi e q
    rw [hn] at this; simp at this
  | some j =>
    obtain ⟨e0, he, hn, _⟩ := idx_some hi
    have e2 : dropS es n = es.eraseIdx j := by simp only [dropS, hi]
    rw [e2]
    refine ⟨h.so.sublist (List.eraseIdx_sublist es j), fun e => ?_⟩
    rw [hme, List.mem_eraseIdx_iff_getElem?]
    constructor
    · rintro ⟨k, hk, hke⟩
      refine ⟨List.mem_of_getElem? hke, fun q => hk ?_⟩
      exact h.uniq hke he (by rw [q, hn])
    · rintro ⟨hm, hne⟩
      obtain ⟨k, hk⟩ := List.mem_iff_getElem?.1 hm
      refine ⟨k, ?_, hk⟩
      rintro rfl
      rw [he] at hk
      cases hk; exact hne hn
theorem mem_ins {e x : En} : ∀ {es : List En}, x ∈ insG e es ↔ x = e ∨ x ∈ es
  | [] => by simp [insG]
  | y :: ys => by
    rw [insG]
    split
    · simp
    · rw [List.mem_cons, mem_ins, List.mem_cons]
      constructor <;> (intro h; rcases h with h | h | h <;> simp [h])
theorem ins_so {e : En} : ∀ {es : List En}, es.Pairwise ltE → (∀ x ∈ es, x.nm ≠ e.nm) → (insG e es).Pairwise ltE
  | [], _, _ => by simp [insG]
  | y :: ys, h, hn => by
    rw [List.pairwise_cons] at h
    rw [insG]
    split
    · rename_i hlt
      rw [List.pairwise_cons, List.pairwise_cons]
      refine ⟨fun z hz => ?_, h⟩
      rcases List.mem_cons.1 hz with rfl | hz
      · exact hlt
      · exact List.lt_trans hlt (h.1 z hz)
    · rename_i hlt
      rw [List.pairwise_cons]
      refine ⟨fun z hz => ?_, ins_so h.2 fun x hx => hn x (by simp [hx])⟩
      rcases mem_ins.1 hz with rfl | hz
      · rcases lt_trich z.nm y.nm with q | q | q
        · exact absurd q hlt
        · exact absurd q.symm (hn y (by simp))
        · exact q
      · exact h.1 z hz
theorem RS.idx_get (h : RS L es) (hI : BI L) (n : List UInt8) : idxE es n = none ↔ get L n = none := by
  have := h.isS hI n
  cases h1 : idxE es n <;> cases h2 : get L n <;> simp [h1, h2] at this ⊢
theorem RS.putE (h : RS L es) (hI : BI L) (e : En) : (putS es e).1 = (putR L e).1 ∧ RS (putR L e).2 (putS es e).2 := by
  have hlen := h.len hI
  have hid := h.idx_get hI e.nm
  unfold putS putR
  by_cases hg : goodE e = false
  · rw [if_pos hg, if_pos hg]; exact ⟨rfl, h⟩
  rw [if_neg hg, if_neg hg]
  cases hi : idxE es e.nm with
  | none =>
    have hgn := hid.1 hi
    by_cases h16 : 16 ≤ es.length
    · have h16' : 16 ≤ L.length := by omega
      simp only [h16, hgn, h16', and_self, if_true]; exact ⟨trivial, h⟩
    · have h16' : ¬ 16 ≤ L.length := by omega
      simp only [h16, h16', and_false, if_false]
      refine ⟨trivial, ins_so h.so fun x hx hn => ?_, fun x => ?_⟩
      · exact get_none hgn _ ((h.me x).1 hx) hn
      · rw [mem_ins, h.me]
        rw [set_none hgn, List.mem_append, List.mem_singleton, Prod.mk.injEq]
        constructor
        · rintro (rfl | q)
          · exact .inr ⟨rfl, rfl⟩
          · exact .inl q
        · rintro (q | q)
          · exact .inr q
          · exact .inl q.2
  | some j =>
    have hgs : ¬ (get L e.nm = none) := fun q => by rw [hid.2 q] at hi; cases hi
    rw [if_neg (fun q : get L e.nm = none ∧ 16 ≤ L.length => hgs q.1)]
    dsimp only
    obtain ⟨e0, he0⟩ := Option.ne_none_iff_exists'.1 hgs
    obtain ⟨jj, hjj, hs⟩ := set_some he0
    obtain ⟨e1, he, hn, _⟩ := idx_some hi
    have hjl : j < es.length := (List.getElem?_eq_some_iff.1 he).1
    have hjjl : jj < L.length := (List.getElem?_eq_some_iff.1 hjj).1
    refine ⟨rfl, ?_, fun x => ?_⟩
    · have h1 : (es.map (·.nm)).Pairwise (· < ·) := by rw [List.pairwise_map]; exact h.so
      have h2 : (es.set j e).map (·.nm) = es.map (·.nm) := by
        rw [List.map_set]
        apply List.ext_getElem?
        intro k
        rw [List.getElem?_set]
        split
        · rename_i q; subst q
          rw [if_pos (by simpa using hjl), List.getElem?_map, he]; simp [hn]
        · rfl
      rw [← h2, List.pairwise_map] at h1; exact h1
    · rw [hs]
      have A : x ∈ es.set j e ↔ x = e ∨ (x ∈ es ∧ x.nm ≠ e.nm) := by
        constructor
        · intro hx
          obtain ⟨k, hk⟩ := List.mem_iff_getElem?.1 hx
          rw [List.getElem?_set] at hk
          split at hk
          · exact .inl (Option.some.inj hk).symm
          · rename_i hjk
            refine .inr ⟨List.mem_of_getElem? hk, fun q => hjk ?_⟩
            exact h.uniq he hk (by rw [hn, q])
        · rintro (rfl | ⟨hx, hne⟩)
          · exact List.mem_of_getElem? (i := j) (by rw [List.getElem?_set_self hjl])
          · obtain ⟨k, hk⟩ := List.mem_iff_getElem?.1 hx
            refine List.mem_of_getElem? (i := k) ?_
            rw [List.getElem?_set_ne (fun q => ?_)]
            · exact hk
            · subst q; rw [he] at hk; cases hk; exact hne hn
      have B : (x.nm, x) ∈ L.set jj (e.nm, e) ↔ x = e ∨ ((x.nm, x) ∈ L ∧ x.nm ≠ e.nm) := by
        constructor
        · intro hx
          obtain ⟨k, hk⟩ := List.mem_iff_getElem?.1 hx
          rw [List.getElem?_set] at hk
          split at hk
          · exact .inl (congrArg Prod.snd (Option.some.inj hk)).symm
          · rename_i hjk
            refine .inr ⟨List.mem_of_getElem? hk, fun q => hjk ?_⟩
            have e1 : (L.map (·.1))[jj]? = some e.nm := by rw [List.getElem?_map, hjj]; rfl
            have e2 : (L.map (·.1))[k]? = some e.nm := by rw [List.getElem?_map, hk]; simp [q]
            exact (List.getElem?_inj (by simpa using hjjl) hI.nd).1 (e1.trans e2.symm)
        · rintro (rfl | ⟨hx, hne⟩)
          · exact List.mem_of_getElem? (i := jj) (by rw [List.getElem?_set_self hjjl])
          · obtain ⟨k, hk⟩ := List.mem_iff_getElem?.1 hx
            refine List.mem_of_getElem? (i := k) ?_
            rw [List.getElem?_set_ne (fun q => ?_)]
            · exact hk
            · subst q; rw [hjj] at hk
              have := congrArg Prod.fst (Option.some.inj hk)
              exact hne this.symm
      rw [A, B, h.me]
theorem mem_dropS {n : List UInt8} {x : En} (h : x ∈ dropS es n) : x ∈ es := by
  unfold dropS at h
  split at h
  · exact (List.eraseIdx_sublist _ _).subset h
  · exact h
theorem mem_putS {e x : En} (h : x ∈ (putS es e).2) : x = e ∨ x ∈ es := by
  unfold putS at h
  split at h
  · exact .inr h
  split at h
  · rcases List.mem_or_eq_of_mem_set h with q | q
    · exact .inr q
    · exact .inl q
  · split at h
    · exact .inr h
    · exact mem_ins.1 h
end
abbrev zE' : En := ⟨[], List.replicate 16 0, 0, 0, false⟩
unseal en in
theorem zE_en : en zE = en zE' := by kernel_rfl
theorem zE_wf : zE'.Wf := ⟨by decide, by decide, by decide, by decide⟩
open Classical in
theorem en_neq {e : En} (h : e.Wf) (hn : e.nm.length ≤ 1000000) : aggEqR Tryd.prog .neq 34 (enV e) (enV e) = some (.bool false) := by
  unfold aggEqR
  rw [if_pos ⟨enEq, en_flat, en_flat, ⟨_, rfl⟩, ⟨_, rfl⟩, en_lit e h hn, en_lit e h hn⟩]
  simp
theorem zE_neq : aggEqR Tryd.prog .neq 34 (enV zE) (enV zE) = some (.bool false) := by
  have := en_neq zE_wf (by decide)
  unfold enV at this ⊢
  rw [zE_en]; exact this
end L09
