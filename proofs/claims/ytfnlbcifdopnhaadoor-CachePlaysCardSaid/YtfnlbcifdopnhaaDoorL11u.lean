import Derived.Test.YtfnlbcifdopnhaaDoorL11t
open Go Ab Go.Proofs
namespace L11
set_option autoImplicit false
set_option linter.unusedSimpArgs false
set_option linter.unusedVariables false

/-! ### The document's tickets are the program's -/
theorem pairwise_get {α : Type} {r : α → α → Prop} {l : List α} (h : l.Pairwise r) {i j : Nat} {a b : α} (hi : l[i]? = some a) (hj : l[j]? = some b) (hij : i < j) : r a b := by
  obtain ⟨h1, e1⟩ := List.getElem?_eq_some_iff.1 hi
  obtain ⟨h2, e2⟩ := List.getElem?_eq_some_iff.1 hj
  rw [← e1, ← e2]
  exact List.pairwise_iff_getElem.1 h i j h1 h2 hij
theorem srt_lt {l : List (List UInt8)} (h : l.Nodup) : (srt l).Pairwise fun a b => a < b := by
  have tr : ∀ a b c : List UInt8, leB a b = true → leB b c = true → leB a c = true := fun a b c h1 h2 => by simp only [leB, decide_eq_true_eq] at *; exact List.le_trans h1 h2
  have to : ∀ a b : List UInt8, (leB a b || leB b a) = true := fun a b => by simp only [leB, Bool.or_eq_true, decide_eq_true_eq]; exact List.le_total a b
  have h1 := List.pairwise_mergeSort tr to l
  have h2 : (l.mergeSort leB).Nodup := (List.mergeSort_perm l leB).nodup_iff.2 h
  have h3 := h1.and h2
  refine h3.imp fun {a b} ⟨q1, q2⟩ => ?_
  simp only [leB, decide_eq_true_eq] at q1
  by_cases e : a < b
  · exact e
  · exact absurd (List.le_antisymm q1 (List.not_lt.1 e)) q2
theorem lt_trich : ∀ (a b : List UInt8), a < b ∨ a = b ∨ b < a
  | [], [] => .inr (.inl rfl)
  | [], _ :: _ => .inl (by simp)
  | _ :: _, [] => .inr (.inr (by simp))
  | x :: a, y :: b => by
    simp only [List.cons_lt_cons_iff]
    have hx : x < y ∨ x = y ∨ y < x := by
      rcases Nat.lt_trichotomy x.toNat y.toNat with g | g | g
      · exact .inl (UInt8.lt_iff_toNat_lt.2 g)
      · exact .inr (.inl (UInt8.toNat_inj.1 g))
      · exact .inr (.inr (UInt8.lt_iff_toNat_lt.2 g))
    rcases lt_trich a b with h | h | h <;> rcases hx with g | g | g <;> simp [h, g]
theorem rise_eq : ∀ {a b : List (List UInt8)}, a.Pairwise (· < ·) → b.Pairwise (· < ·) → (∀ x, x ∈ a ↔ x ∈ b) → a = b
  | [], [], _, _, _ => rfl
  | [], y :: b, _, _, h => absurd ((h y).2 (by simp)) (by simp)
  | x :: a, [], _, _, h => absurd ((h x).1 (by simp)) (by simp)
  | x :: a, y :: b, ha, hb, h => by
    rw [List.pairwise_cons] at ha hb
    have hxy : x = y := by
      rcases List.mem_cons.1 ((h x).1 (by simp)) with e | e
      · exact e
      · rcases List.mem_cons.1 ((h y).2 (by simp)) with e2 | e2
        · exact e2.symm
        · exact absurd (hb.1 x e) (List.lt_asymm (ha.1 y e2))
    subst hxy
    rw [rise_eq ha.2 hb.2 fun z => ?_]
    have nx : ∀ {l : List (List UInt8)}, (∀ z ∈ l, x < z) → x ∉ l := fun hl hm => List.lt_irrefl _ (hl x hm)
    have hz := h z
    simp only [List.mem_cons] at hz
    by_cases e : z = x
    · subst e; exact ⟨fun q => absurd q (nx ha.1), fun q => absurd q (nx hb.1)⟩
    · simpa [e] using hz
abbrev ltX (a b : CX) : Prop := a.1.g.sv < b.1.g.sv
structure RS (L : CL) (es : List CX) : Prop where
  so : es.Pairwise ltX
  me : ∀ c, (∃ p, (c, p) ∈ es) ↔ (c.g.sv, c) ∈ L
theorem RS.nil : RS [] [] := ⟨List.Pairwise.nil, by simp⟩
section
variable {L : CL} {es : List CX}
theorem RS.inn (h : RS L es) {x : CX} (hx : x ∈ es) : (x.1.g.sv, x.1) ∈ L := (h.me x.1).1 ⟨x.2, hx⟩
theorem RS.names (h : RS L es) (hI : CI L) : es.map (fun x => x.1.g.sv) = srvL L := by
  have hp : (srt (L.map (·.1))).Perm (L.map (·.1)) := List.mergeSort_perm _ _
  refine rise_eq (by rw [List.pairwise_map]; exact h.so) (srt_lt hI.nd) fun n => ?_
  show n ∈ _ ↔ n ∈ srt (L.map (·.1))
  rw [hp.mem_iff]
  constructor
  · intro hn
    obtain ⟨x, hx, rfl⟩ := List.mem_map.1 hn
    exact List.mem_map.2 ⟨_, h.inn hx, rfl⟩
  · intro hn
    obtain ⟨y, hy, rfl⟩ := List.mem_map.1 hn
    obtain ⟨a, c⟩ := y
    have hk : c.g.sv = a := hI.kn _ hy
    subst hk
    obtain ⟨p, hp⟩ := (h.me c).2 hy
    exact List.mem_map.2 ⟨_, hp, rfl⟩
theorem RS.len (h : RS L es) (hI : CI L) : es.length = L.length := by
  have := congrArg List.length (h.names hI)
  rw [List.length_map, srvL_len] at this; exact this
theorem RS.uniq (h : RS L es) {j k : Nat} {a b : CX} (hj : es[j]? = some a) (hk : es[k]? = some b) (hn : a.1.g.sv = b.1.g.sv) : j = k := by
  rcases Nat.lt_trichotomy j k with q | q | q
  · have : a.1.g.sv < b.1.g.sv := pairwise_get h.so hj hk q
    rw [hn] at this
    exact absurd this (List.lt_irrefl _)
  · exact q
  · have : b.1.g.sv < a.1.g.sv := pairwise_get h.so hk hj q
    rw [hn] at this
    exact absurd this (List.lt_irrefl _)
theorem RS.fnd (h : RS L es) (hI : CI L) (n : List UInt8) : (es.find? (fun e => e.1.g.sv == n)).map (·.1) = get L n := by
  cases hg : get L n with
  | none =>
    rw [Option.map_eq_none_iff, List.find?_eq_none]
    intro x hx hn
    simp only [beq_iff_eq] at hn
    exact get_none hg _ (h.inn hx) hn
  | some e =>
    have hm := get_mem hg
    have hn : e.g.sv = n := hI.kn _ hm
    obtain ⟨p, he⟩ := (h.me e).2 (by rw [hn]; exact hm)
    cases hf : es.find? (fun e => e.1.g.sv == n) with
    | none =>
      rw [List.find?_eq_none] at hf
      exact absurd (by simpa using hn) (hf _ he)
    | some x =>
      have h1 := List.mem_of_find?_eq_some hf
      have h2 := List.find?_some hf
      simp only [beq_iff_eq] at h2
      have h3 := get_of_mem hI.nd (h.inn h1)
      dsimp only at h3
      rw [h2, hg] at h3
      rw [Option.map_some, ← h3]
theorem RS.find (h : RS L es) (hI : CI L) (n : List UInt8) (now : Int) : (findS es n now).1.1 = (findR L n now).1 ∧ (findS es n now).2 = (findR L n now).2 := by
  have hf := h.fnd hI n
  unfold findS findR
  rw [← hf]
  cases es.find? (fun e => e.1.g.sv == n) with
  | none => exact ⟨rfl, rfl⟩
  | some x =>
    dsimp only [Option.map_some]
    by_cases hd : x.1.g.en < now
    · rw [if_pos hd, if_pos hd]; exact ⟨rfl, rfl⟩
    · rw [if_neg hd, if_neg hd]; exact ⟨rfl, rfl⟩
theorem RS.isS (h : RS L es) (hI : CI L) (n : List UInt8) : (idxE es n).isSome = (get L n).isSome := by
  rw [← h.fnd hI, find_idx]
  cases hi : idxE es n with
  | none => rfl
  | some j =>
    obtain ⟨e, he, _⟩ := idx_some hi
    simp [he]
theorem idx_none {n : List UInt8} (hi : idxE es n = none) : ∀ x ∈ es, x.1.g.sv ≠ n := fun x hx hn => by
  unfold idxE at hi
  rw [List.findIdx?_eq_none_iff] at hi
  have := hi x hx
  rw [hn] at this; simp at this
theorem RS.dropE (h : RS L es) (hI : CI L) (n : List UInt8) : RS (dropT L n) (dropS es n) := by
  have hme : ∀ c : Cr, (c.g.sv, c) ∈ dropT L n ↔ (∃ p, (c, p) ∈ es) ∧ c.g.sv ≠ n := fun x => by
    rw [dropT, List.mem_filter, ← h.me]; simp
  cases hi : idxE es n with
  | none =>
    have e2 : dropS es n = es := by simp only [dropS, hi]
    rw [e2]
    refine ⟨h.so, fun e => ?_⟩
    rw [hme]
    exact ⟨fun q => ⟨q, by obtain ⟨p, hp⟩ := q; exact idx_none hi _ hp⟩, fun q => q.1⟩
  | some j =>
    obtain ⟨e0, he, hn, _⟩ := idx_some hi
    have e2 : dropS es n = es.eraseIdx j := by simp only [dropS, hi]
    rw [e2]
    refine ⟨h.so.sublist (List.eraseIdx_sublist es j), fun e => ?_⟩
    rw [hme]
    constructor
    · rintro ⟨p, hp⟩
      rw [List.mem_eraseIdx_iff_getElem?] at hp
      obtain ⟨k, hk, hke⟩ := hp
      refine ⟨⟨p, List.mem_of_getElem? hke⟩, fun q => hk ?_⟩
      exact h.uniq hke he (by rw [hn]; exact q)
    · rintro ⟨⟨p, hm⟩, hne⟩
      refine ⟨p, ?_⟩
      rw [List.mem_eraseIdx_iff_getElem?]
      obtain ⟨k, hk⟩ := List.mem_iff_getElem?.1 hm
      refine ⟨k, ?_, hk⟩
      rintro rfl
      rw [he] at hk
      cases hk; exact hne hn
theorem RS.keepE (h : RS L es) (now : Int) : RS (keepL L now) (keepS es now) := by
  refine ⟨h.so.sublist List.filter_sublist, fun c => ?_⟩
  rw [keepL, List.mem_filter, ← h.me]
  constructor
  · rintro ⟨p, hp⟩
    rw [keepS, List.mem_filter] at hp
    refine ⟨⟨p, hp.1⟩, ?_⟩
    have := hp.2
    simp at this ⊢; exact this
  · rintro ⟨⟨p, hp⟩, hc⟩
    refine ⟨p, ?_⟩
    rw [keepS, List.mem_filter]
    refine ⟨hp, ?_⟩
    simp at hc ⊢; exact hc
theorem last_lt {A : List CX} {e : CX} (hA : A.Pairwise ltX) (hn : ∀ a ∈ A, a.1.g.sv ≠ e.1.g.sv) (hl : ∀ a, A.getLast? = some a → ¬ e.1.g.sv < a.1.g.sv) : ∀ a ∈ A, ltX a e := by
  rcases List.eq_nil_or_concat A with rfl | ⟨A', x, rfl⟩
  · simp
  rw [List.concat_eq_append] at *
  have hx : ltX x e := by
    rcases lt_trich x.1.g.sv e.1.g.sv with q | q | q
    · exact q
    · exact absurd q (hn x (by simp))
    · exact absurd q (hl x (by simp))
  intro a ha
  rcases List.mem_append.1 ha with ha | ha
  · rw [List.pairwise_append] at hA
    exact List.lt_trans (hA.2.2 a ha x (by simp)) hx
  · rw [List.mem_singleton.1 ha]; exact hx
theorem RS.putE {e : CX} {now z : Int} {es' : List CX} (h : RS L es) (hI : CI L) (hp : PutS es e now z es') : z = (putR L e.1 now).1 ∧ RS (putR L e.1 now).2 es' := by
  unfold PutS at hp
  unfold putR
  by_cases hg : goodC e.1 = false
  · rw [if_pos hg] at hp ⊢; obtain ⟨rfl, rfl⟩ := hp; exact ⟨rfl, h⟩
  rw [if_neg hg] at hp ⊢
  by_cases hd : e.1.g.en < now
  · rw [if_pos hd] at hp ⊢; obtain ⟨rfl, rfl⟩ := hp; exact ⟨rfl, h⟩
  rw [if_neg hd] at hp ⊢
  have hK := h.keepE now
  have hI2 := hI.keep now
  generalize keepS es now = K at *
  generalize keepL L now = M at *
  have hlen := hK.len hI2
  have hid := hK.isS hI2 e.1.g.sv
  unfold PutK at hp
  cases hi : idxE K e.1.g.sv with
  | none =>
    rw [hi] at hp hid
    have hgn : get M e.1.g.sv = none := by cases hq : get M e.1.g.sv <;> simp [hq] at hid ⊢
    dsimp only at hp
    by_cases h8 : 8 ≤ K.length
    · rw [if_pos h8] at hp
      obtain ⟨rfl, rfl⟩ := hp
      rw [if_pos ⟨hgn, by omega⟩]
      exact ⟨rfl, hK⟩
    · rw [if_neg h8] at hp
      rw [if_neg (fun q : get M e.1.g.sv = none ∧ 8 ≤ M.length => h8 (by rw [hlen]; exact q.2))]
      obtain ⟨rfl, A, B, rfl, hB, hA, rfl⟩ := hp
      have hso := hK.so
      rw [List.pairwise_append] at hso
      have hlt := last_lt hso.1 (fun a ha => idx_none hi a (by simp [ha])) hA
      refine ⟨rfl, ?_, fun c => ?_⟩
      · rw [List.pairwise_append]
        refine ⟨hso.1, by rw [List.pairwise_cons]; exact ⟨hB, hso.2.1⟩, fun a ha b hb => ?_⟩
        rcases List.mem_cons.1 hb with rfl | hb
        · exact hlt a ha
        · exact hso.2.2 a ha b hb
      · dsimp only
        rw [set_none hgn, List.mem_append, List.mem_singleton, ← hK.me]
        constructor
        · rintro ⟨p, hp⟩
          rcases List.mem_append.1 hp with q | q
          · exact .inl ⟨p, by simp [q]⟩
          · rcases List.mem_cons.1 q with q | q
            · right; rw [← q]
            · exact .inl ⟨p, by simp [q]⟩
        · rintro (⟨p, hp⟩ | q)
          · refine ⟨p, ?_⟩
            rcases List.mem_append.1 hp with q | q <;> simp [q]
          · have : c = e.1 := congrArg Prod.snd q
            exact ⟨e.2, by rw [this]; simp⟩
  | some j =>
    rw [hi] at hp hid
    dsimp only at hp
    obtain ⟨rfl, rfl⟩ := hp
    obtain ⟨e0, he0⟩ := Option.isSome_iff_exists.1 hid.symm
    rw [if_neg (fun q : get M e.1.g.sv = none ∧ 8 ≤ M.length => by rw [q.1] at he0; cases he0)]
    dsimp only
    obtain ⟨jj, hjj, hs⟩ := set_some he0
    obtain ⟨e1, he, hn, _⟩ := idx_some hi
    have hjl : j < K.length := (List.getElem?_eq_some_iff.1 he).1
    have hjjl : jj < M.length := (List.getElem?_eq_some_iff.1 hjj).1
    refine ⟨rfl, ?_, fun c => ?_⟩
    · have h1 : (K.map (fun x : CX => x.1.g.sv)).Pairwise (· < ·) := by rw [List.pairwise_map]; exact hK.so
      have h2 : (K.set j e).map (fun x : CX => x.1.g.sv) = K.map (fun x : CX => x.1.g.sv) := by
        rw [List.map_set]
        apply List.ext_getElem?
        intro k
        rw [List.getElem?_set]
        split
        · rename_i q; subst q
          rw [if_pos (by simpa using hjl), List.getElem?_map, he]; simp [hn]
        · rfl
      rw [← h2, List.pairwise_map] at h1; exact h1
    · rw [hs]
      have A : (∃ p, (c, p) ∈ K.set j e) ↔ c = e.1 ∨ ((∃ p, (c, p) ∈ K) ∧ c.g.sv ≠ e.1.g.sv) := by
        constructor
        · rintro ⟨p, hx⟩
          obtain ⟨k, hk⟩ := List.mem_iff_getElem?.1 hx
          rw [List.getElem?_set] at hk
          split at hk
          · exact .inl (congrArg Prod.fst (Option.some.inj hk)).symm
          · rename_i hjk
            refine .inr ⟨⟨p, List.mem_of_getElem? hk⟩, fun q => hjk ?_⟩
            exact hK.uniq he hk (by rw [hn]; exact q.symm)
        · rintro (rfl | ⟨⟨p, hx⟩, hne⟩)
          · exact ⟨e.2, List.mem_of_getElem? (i := j) (by rw [List.getElem?_set_self hjl])⟩
          · obtain ⟨k, hk⟩ := List.mem_iff_getElem?.1 hx
            refine ⟨p, List.mem_of_getElem? (i := k) ?_⟩
            rw [List.getElem?_set_ne (fun q => ?_)]
            · exact hk
            · subst q; rw [he] at hk; cases hk; exact hne hn
      have B : (c.g.sv, c) ∈ M.set jj (e.1.g.sv, e.1) ↔ c = e.1 ∨ ((c.g.sv, c) ∈ M ∧ c.g.sv ≠ e.1.g.sv) := by
        constructor
        · intro hx
          obtain ⟨k, hk⟩ := List.mem_iff_getElem?.1 hx
          rw [List.getElem?_set] at hk
          split at hk
          · exact .inl (congrArg Prod.snd (Option.some.inj hk)).symm
          · rename_i hjk
            refine .inr ⟨List.mem_of_getElem? hk, fun q => hjk ?_⟩
            have e1 : (M.map (·.1))[jj]? = some e.1.g.sv := by rw [List.getElem?_map, hjj]; rfl
            have e2 : (M.map (·.1))[k]? = some e.1.g.sv := by rw [List.getElem?_map, hk]; simp [q]
            exact (List.getElem?_inj (by simpa using hjjl) hI2.nd).1 (e1.trans e2.symm)
        · rintro (rfl | ⟨hx, hne⟩)
          · exact List.mem_of_getElem? (i := jj) (by rw [List.getElem?_set_self hjjl])
          · obtain ⟨k, hk⟩ := List.mem_iff_getElem?.1 hx
            refine List.mem_of_getElem? (i := k) ?_
            rw [List.getElem?_set_ne (fun q => ?_)]
            · exact hk
            · subst q; rw [hjj] at hk
              have := congrArg Prod.fst (Option.some.inj hk)
              exact hne this.symm
      rw [A, B, hK.me]
theorem mem_dropS {n : List UInt8} {x : CX} (h : x ∈ dropS es n) : x ∈ es := by
  unfold dropS at h
  split at h
  · exact (List.eraseIdx_sublist _ _).subset h
  · exact h
theorem mem_putS {e x : CX} {now z : Int} {es' : List CX} (hp : PutS es e now z es') (h : x ∈ es') : x = e ∨ x ∈ es := by
  unfold PutS at hp
  split at hp
  · rw [hp.2] at h; exact .inr h
  split at hp
  · rw [hp.2] at h; exact .inr h
  have hk : ∀ y ∈ keepS es now, y ∈ es := fun y hy => (List.mem_filter.1 hy).1
  unfold PutK at hp
  split at hp
  · rw [hp.2] at h
    rcases List.mem_or_eq_of_mem_set h with q | q
    · exact .inr (hk x q)
    · exact .inl q
  · split at hp
    · rw [hp.2] at h; exact .inr (hk x h)
    · obtain ⟨_, A, B, hAB, _, _, rfl⟩ := hp
      rcases List.mem_append.1 h with q | q
      · exact .inr (hk x (by rw [hAB]; simp [q]))
      · rcases List.mem_cons.1 q with q | q
        · exact .inl q
        · exact .inr (hk x (by rw [hAB]; simp [q]))
end
end L11
