import Derived.Test.YtjjocbijmhmdkaaAbS
namespace Ab
open Go
set_option autoImplicit false
set_option linter.unusedVariables false
set_option linter.unusedSimpArgs false

theorem evalA_notPure {P : Program} {id b : Nat} {s : St} {o : Op} {x : Value × AObj} (h : evalA P id b s o = some x) (hp : pureOp o = true) : False := by
  unfold pureOp at hp
  split at hp <;> first | (cases hp; done) | (simp only [evalA] at h; cases h)

section
variable {P : Program} {ops : Array Oper} {items : List PItem} {M0 : Mp} {h0 : AHeap} {w0 : World} {s0 : St} {L : Nat → Bool} {rc : List (Nat × Ent)} {l : List PItem} {s : St} {h : AHeap} {M : Mp} {a : Act} {w : World}

theorem edges_at {i j : Nat} {o : Oper} (ho : ops[i]? = some o) (hj : j ∈ edgesOf o) : j ∈ edgesAt ops i := by unfold edgesAt; rw [ho]; exact hj

theorem Mid.anc_in (m : Mid P ops items M0 h0 w0 s0 L rc l s h M a w) {i : Nat} (he : ∀ j ∈ edgesAt ops i, ∃ e, (j, e) ∈ rc) : ∀ j, Anc ops j i → ∃ e, (j, e) ∈ rc := by
  intro j hj
  cases hj with
  | edge _ _ o ho hj => exact he j (edges_at ho hj)
  | step _ j' _ o hk ho hj' =>
    obtain ⟨e, hm⟩ := he j' (edges_at ho hj')
    obtain ⟨pre, suf, hs⟩ := List.append_of_mem hm
    obtain ⟨e', he'⟩ := m.rcdown pre j' e suf hs j hk
    exact ⟨e', by rw [hs]; exact List.mem_append_right _ (List.mem_cons_of_mem _ he')⟩

theorem mem_fst {rc : List (Nat × Ent)} {j : Nat} (h : (rc.map (·.1)).contains j = true) : ∃ e, (j, e) ∈ rc := by
  rw [List.contains_iff_mem] at h
  obtain ⟨p, hp, rfl⟩ := List.mem_map.1 h
  exact ⟨p.2, hp⟩

theorem not_mem_fst {rc : List (Nat × Ent)} {j : Nat} (h : (rc.map (·.1)).contains j = false) : ∀ e, (j, e) ∉ rc := by
  intro e hm
  have : (rc.map (·.1)).contains j = true := by rw [List.contains_iff_mem]; exact List.mem_map.2 ⟨_, hm, rfl⟩
  rw [h] at this; cases this

theorem edges_in {i : Nat} (h : (edgesAt ops i).all ((rc.map (·.1)).contains ·) = true) : ∀ j ∈ edgesAt ops i, ∃ e, (j, e) ∈ rc := by
  intro j hj
  rw [List.all_eq_true] at h
  exact mem_fst (h j hj)

theorem Mid.notL (m : Mid P ops items M0 h0 w0 s0 L rc l s h M a w) {i : Nat} (hnew : ∀ e, (i, e) ∉ rc) : L i = false := by
  cases hL : L i with
  | false => rfl
  | true => obtain ⟨e, he⟩ := m.sub i hL; exact absurd he (hnew e)

theorem AHeap.le_push (hb : ∀ i, h.next ≤ i → h.obj i = none) (o : AObj) : h.le (h.push o) := by
  refine ⟨rfl, fun i x hx => ?_⟩
  by_cases hi : h.next ≤ i
  · rw [hb i hi] at hx; cases hx
  · simp only [AHeap.push]; rw [if_neg (by omega)]; exact hx

theorem Pend.push {n0 i : Nat} {e : Ent} (hb : ∀ i, h.next ≤ i → h.obj i = none) (k : Pend P ops n0 h M i e) (o : AObj) : Pend P ops n0 (h.push o) M i e := by
  obtain ⟨op, ho, hp⟩ := k
  refine ⟨op, ho, ?_⟩
  have hnew : ∀ x y, x < h.next → h.obj x = some y → (h.push o).obj x = some y := fun x y hx hy => by
    simp only [AHeap.push]; rw [if_neg (by omega)]; exact hy
  cases e with
  | skip s => exact hp
  | w v => exact hp
  | r s v =>
    exact ⟨hp.1, evalR_mono (AHeap.le_push hb o) hp.2⟩
  | a s v id ob =>
    obtain ⟨p1, p2, p3, p4, p5, p6⟩ := hp
    exact ⟨p1, p2, hnew _ _ p5 p3, p4, Nat.lt_succ_of_lt p5, p6⟩

/-- The abstract run goes ahead as far as nothing is to be written. -/
theorem Mid.eager (pl : Plan ops items) {bits : List Nat} {Q : St → AHeap → Prop} (hbits : ∀ i j, an bits j i = true → Anc ops j i) :
    ∀ (l : List PItem) (rc : List (Nat × Ent)) (lastW : Option Nat) (s : St) (h : AHeap), Mid P ops items M0 h0 w0 s0 L rc l s h M a w → (∀ it ∈ l, it ∈ items) → planGo ops bits (rc.map (·.1)) lastW l = true → awpD P ops Q l rc s h →
      ∃ rc' l' s' h', Mid P ops items M0 h0 w0 s0 L rc' l' s' h' M a w ∧ (∀ it ∈ l', it ∈ items) ∧ planGo ops bits (rc'.map (·.1)) lastW l' = true ∧ awpD P ops Q l' rc' s' h' ∧ (l' = [] ∨ ∃ i ts rs l2, l' = .w i ts rs :: l2)
  | [], rc, lastW, s, h, m, hsub, hp, k => ⟨rc, [], s, h, m, hsub, hp, k, .inl rfl⟩
  | .w i ts rs :: l2, rc, lastW, s, h, m, hsub, hp, k => ⟨rc, _, s, h, m, hsub, hp, k, .inr ⟨i, ts, rs, l2, rfl⟩⟩
  | .n i ts :: l2, rc, lastW, s, h, m, hsub, hp, k => by
    have hp0 := hp
    simp only [planGo, Bool.and_eq_true, Bool.not_eq_true', decide_eq_true_eq] at hp
    obtain ⟨⟨⟨⟨he, hnew⟩, hlt⟩, _⟩, hp⟩ := hp
    have hnew' := not_mem_fst hnew
    have hedges := m.anc_in (edges_in he)
    have hL := m.notL hnew'
    have hit : PItem.n i ts ∈ items := hsub _ (by simp)
    simp only [awpD] at k
    cases ho : ops[i]? with
    | none => rw [ho] at k; exact k.elim
    | some o =>
      rw [ho] at k
      obtain ⟨hd, k⟩ := k
      have go : ∀ (e : Ent) (h' : AHeap), Rel M h' w → Post M0 h0 w0 M h' w → Pend P ops h0.next h' M i e → (∀ i e', (i, e') ∈ rc → L i = false → Pend P ops h0.next h' M i e') → h.next ≤ h'.next → (∀ x, e.id? = some x → x = h.next ∧ x < h'.next) →
          e.env = some (s.only ts) → awpD P ops Q l2 ((i, e) :: rc) (putO s o.dst e.val) h' → _ := fun e h' r1 p1 q1 q2 q3 q4 q5 k' =>
        Mid.eager pl hbits l2 ((i, e) :: rc) lastW _ _ (m.ahead (it := .n i ts) pl hit ho hnew' hedges hd hL r1 p1 q1 q2 q3 q4 q5) (fun it hit => hsub it (by simp [hit])) hp k'
      split at k
      · rename_i hg
        exact go (.skip (s.only ts)) h m.rel m.post ⟨o, ho, hg⟩ m.pend (Nat.le_refl _) (fun x hx => by cases hx) rfl k
      · rename_i hg
        split at k
        · rename_i v hv
          exact go (.r (s.only ts) v) h m.rel m.post ⟨o, ho, hg, hv⟩ m.pend (Nat.le_refl _) (fun x hx => by cases hx) rfl k
        · split at k
          · rename_i v ob hv
            have hnone := m.rel.fresh h.next (Nat.le_refl _)
            refine go (.a (s.only ts) v h.next ob) (h.push ob) (m.rel.ghostPush ob) (m.post.ghostPush m.rel ob) ⟨o, ho, hg, hv, by simp [AHeap.push], hnone, Nat.lt_succ_self _, m.post.next⟩ (fun j e' hj hLj => (m.pend j e' hj hLj).push m.rel.bnd ob) (Nat.le_succ _)
              (fun x hx => by obtain rfl := Option.some.inj hx; exact ⟨rfl, Nat.lt_succ_self _⟩) rfl k
          · exact k.elim
      · exact k.elim

/-- Behind a writing operation all stand in order to it. -/
theorem planGo_anc {bits : List Nat} (hbits : ∀ i j, an bits j i = true → Anc ops j i) : ∀ (l : List PItem) (seen : List Nat) (k : Nat), planGo ops bits seen (some k) l = true → ∀ it ∈ l, Anc ops k it.idx
  | [], _, _, _, it, h => by cases h
  | .n i ts :: l, seen, k, hp, it, h => by
    simp only [planGo, Bool.and_eq_true] at hp
    obtain ⟨⟨_, ha⟩, hp⟩ := hp
    rcases List.mem_cons.1 h with rfl | h
    · exact hbits _ _ ha
    · exact planGo_anc hbits l _ k hp it h
  | .w i ts rs :: l, seen, k, hp, it, h => by
    simp only [planGo, Bool.and_eq_true] at hp
    obtain ⟨⟨⟨_, ha⟩, _⟩, hp⟩ := hp
    rcases List.mem_cons.1 h with rfl | h
    · exact hbits _ _ ha
    · exact (hbits _ _ ha).trans (planGo_anc hbits l _ i hp it h)

/-- A writing operation is done, by both at once. -/
theorem Mid.write {it : PItem} (m : Mid P ops items M0 h0 w0 s0 L rc (it :: l) s h M a w) (pl : Plan ops items) {o : Oper} (hit : it ∈ items) (ho : ops[it.idx]? = some o) (hnew : ∀ e, (it.idx, e) ∉ rc)
    (hedges : ∀ j, Anc ops j it.idx → ∃ e, (j, e) ∈ rc) (hr : ∀ j, Anc ops j it.idx → L j = true) (hd : dstOk s o.dst = true) {v vc : Value} {h' : AHeap} {M' : Mp} {w' : World}
    (rel : Rel M' h' w') (p : Post M h w M' h' w') (hv : VRel M' v vc) (hold : ∀ i e', (i, e') ∈ rc → L i = false → Pend P ops h0.next h' M' i e') :
    Mid P ops items M0 h0 w0 s0 (fun j => L j || j == it.idx) ((it.idx, .w v) :: rc) l (putO s o.dst v) h' M' (a.put o.dst vc) w' where
  rel := rel
  post := m.post.trans p
  b0 := m.b0
  defers := by cases o.dst <;> exact m.defers
  size := by cases hd : o.dst <;> simp [Act.put, m.size]
  sn := by cases o.dst <;> exact m.sn
  slots := fun t u hs => by
    have hE := m.notL hnew
    by_cases hdt : dstAt ops it.idx = some t
    · have hd2 : o.dst = some t := by unfold dstAt at hdt; rw [ho] at hdt; exact hdt
      unfold slotOf at hs
      rw [List.find?_cons] at hs
      simp only [hdt, beq_self_eq_true, Bool.or_true, Bool.and_true, Option.some.injEq, Ent.val] at hs
      subst hs
      have hlt : t < a.tmps.size := by
        rw [m.size, ← m.sn]
        rw [hd2] at hd; exact of_decide_eq_true hd
      rw [hd2]
      simpa [Act.put, Array.getD, hlt] using hv
    · have e1 : slotOf ops ((it.idx, Ent.w v) :: rc) (fun j => L j || j == it.idx) s0 t = slotOf ops rc L s0 t := by
        unfold slotOf
        rw [List.find?_cons]
        have : (dstAt ops it.idx == some t && (L it.idx || it.idx == it.idx)) = false := by
          have : (dstAt ops it.idx == some t) = false := by simpa using hdt
          simp [this]
        simp only [this]
        have e2 : rc.find? (fun p => dstAt ops p.1 == some t && (L p.1 || p.1 == it.idx)) = rc.find? (fun p => dstAt ops p.1 == some t && L p.1) := by
          congr 1
          funext q
          by_cases hq : q.1 = it.idx
          · rw [hq]
            have : (dstAt ops it.idx == some t) = false := by simpa using hdt
            simp [this]
          · have : (q.1 == it.idx) = false := by simpa using hq
            simp [this]
        rw [e2]
      rw [e1] at hs
      have h2 := (m.slots t u hs).mono p.ext
      have e2 : (a.put o.dst vc).tmps.getD t undef = a.tmps.getD t undef := by
        cases hod : o.dst with
        | none => rfl
        | some d =>
          have hne : d ≠ t := by
            rintro rfl
            apply hdt; unfold dstAt; rw [ho]; exact hod
          show (a.tmps.setIfInBounds d vc).getD t undef = _
          rw [Array.getD_eq_getD_getElem?, Array.getD_eq_getD_getElem?, Array.getElem?_setIfInBounds_ne hne]
      rw [e2]; exact h2
  abs := fun t => by
    by_cases hdt : dstAt ops it.idx = some t
    · have hd2 : o.dst = some t := by unfold dstAt at hdt; rw [ho] at hdt; exact hdt
      unfold slotOf
      rw [List.find?_cons]
      simp only [hdt, beq_self_eq_true, Bool.and_true]
      rw [hd2]
      simp [putO, St.put, St.get, lk, Ent.val]
    · have e1 : slotOf ops ((it.idx, Ent.w v) :: rc) (fun _ => true) s0 t = slotOf ops rc (fun _ => true) s0 t := by
        unfold slotOf
        rw [List.find?_cons]
        have : (dstAt ops it.idx == some t && true) = false := by simpa using hdt
        simp only [this]
      rw [e1, ← m.abs t]
      cases hod : o.dst with
      | none => rfl
      | some d =>
        have hne : d ≠ t := by rintro rfl; apply hdt; unfold dstAt; rw [ho]; exact hod
        simp [putO, St.put, St.get, lk, hne]
  sub := fun i hi => by
    simp only [Bool.or_eq_true, beq_iff_eq] at hi
    rcases hi with hi | rfl
    · obtain ⟨e', he'⟩ := m.sub i hi; exact ⟨e', List.mem_cons_of_mem _ he'⟩
    · exact ⟨.w v, by simp⟩
  pend := fun i e' hi hLi => by
    simp only [Bool.or_eq_false_iff, beq_eq_false_iff_ne] at hLi
    rcases List.mem_cons.1 hi with h1 | h1
    · cases h1; exact absurd rfl hLi.2
    · exact hold i e' h1 hLi.1
  nodup := by
    simp only [List.map_cons, List.nodup_cons]
    refine ⟨fun hm => ?_, m.nodup⟩
    obtain ⟨q, hq, he⟩ := List.mem_map.1 hm
    obtain ⟨i, e'⟩ := q
    simp only [] at he; subst he
    exact hnew e' hq
  ids := fun i e1 j e2 hi hj hne x hx hx2 => by
    rcases List.mem_cons.1 hi with h1 | h1 <;> rcases List.mem_cons.1 hj with h2 | h2
    · cases h1; cases hx
    · cases h1; cases hx
    · cases h2; cases hx2
    · exact m.ids i e1 j e2 h1 h2 hne x hx hx2
  idlt := fun i e1 hi x hx => by
    rcases List.mem_cons.1 hi with h1 | h1
    · cases h1; cases hx
    · exact Nat.lt_of_lt_of_le (m.idlt i e1 h1 x hx) p.next
  down := fun x j hx hj => by
    simp only [Bool.or_eq_true, beq_iff_eq] at hx ⊢
    rcases hx with hx | rfl
    · exact .inl (m.down x j hx hj)
    · exact .inl (hr j hj)
  rcdown := fun pre i e1 suf hs j hj => by
    cases pre with
    | nil =>
      simp only [List.nil_append, List.cons.injEq, Prod.mk.injEq] at hs
      obtain ⟨⟨rfl, rfl⟩, rfl⟩ := hs
      exact hedges j hj
    | cons q pre =>
      simp only [List.cons_append, List.cons.injEq] at hs
      exact m.rcdown pre i e1 suf hs.2 j hj
  env := fun pre i e1 suf hs => by
    cases pre with
    | nil =>
      simp only [List.nil_append, List.cons.injEq, Prod.mk.injEq] at hs
      obtain ⟨⟨rfl, rfl⟩, rfl⟩ := hs
      exact ⟨it, hit, rfl, fun se hse => by cases hse⟩
    | cons q pre =>
      simp only [List.cons_append, List.cons.injEq] at hs
      exact m.env pre i e1 suf hs.2
  envn := fun i e1 hi se hse => by
    rcases List.mem_cons.1 hi with h1 | h1
    · cases h1; cases hse
    · exact m.envn i e1 h1 se hse
  dst := fun i e1 hi o' ho' d hd' => by
    rcases List.mem_cons.1 hi with h1 | h1
    · cases h1
      rw [ho] at ho'; obtain rfl := Option.some.inj ho'
      rw [hd'] at hd
      rw [← m.sn]; exact of_decide_eq_true hd
    · exact m.dst i e1 h1 o' ho' d hd'
  split := fun it' hit' => by
    rcases m.split it' hit' with ⟨e', he'⟩ | hm
    · exact .inl ⟨e', List.mem_cons_of_mem _ he'⟩
    · rcases List.mem_cons.1 hm with rfl | hm
      · exact .inl ⟨.w v, by simp⟩
      · exact .inr hm
end
end Ab
