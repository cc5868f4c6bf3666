import Derived.Test.YtjjocbijmhmdkaaAbR
namespace Ab
open Go
set_option autoImplicit false
set_option linter.unusedVariables false
set_option linter.unusedSimpArgs false

section
variable {P : Program} {ops : Array Oper} {items : List PItem} {M0 : Mp} {h0 : AHeap} {w0 : World} {s0 : St} {L : Nat → Bool} {rc : List (Nat × Ent)} {l : List PItem} {s : St} {h : AHeap} {M : Mp} {a : Act} {w : World}

/-- The bookkeeping behind an operation that the machine has done, which the abstract run had done: all but the memory and the slots. -/
theorem Mid.done (m : Mid P ops items M0 h0 w0 s0 L rc l s h M a w) {i : Nat} {e : Ent} (hi : (i, e) ∈ rc) (hr : ∀ j, Anc ops j i → L j = true) {M' : Mp} {a' : Act} {w' : World}
    (rel : Rel M' h w') (post : Post M0 h0 w0 M' h w') (hd : a'.defers = []) (hs : a'.tmps.size = s0.n)
    (slots : ∀ t v, slotOf ops rc (fun j => L j || j == i) s0 t = some v → VRel M' v (a'.tmps.getD t undef))
    (hM : ∀ j e', (j, e') ∈ rc → j ≠ i → L j = false → ∀ x, e'.id? = some x → M x = none → M' x = none) :
    Mid P ops items M0 h0 w0 s0 (fun j => L j || j == i) rc l s h M' a' w' where
  rel := rel
  post := post
  b0 := m.b0
  defers := hd
  size := hs
  sn := m.sn
  slots := slots
  abs := m.abs
  sub := fun j hj => by
    simp only [Bool.or_eq_true, beq_iff_eq] at hj
    rcases hj with hj | rfl
    · exact m.sub j hj
    · exact ⟨e, hi⟩
  pend := fun j e' hj hL => by
    simp only [Bool.or_eq_false_iff, beq_eq_false_iff_ne] at hL
    obtain ⟨o, ho, hp⟩ := m.pend j e' hj hL.1
    refine ⟨o, ho, ?_⟩
    cases e' with
    | skip s => exact hp
    | r s v => exact hp
    | w v => exact hp
    | a s v id ob =>
      obtain ⟨p1, p2, p3, p4, p5, p6⟩ := hp
      exact ⟨p1, p2, p3, hM j _ hj hL.2 hL.1 id rfl p4, p5, p6⟩
  nodup := m.nodup
  ids := m.ids
  idlt := m.idlt
  down := fun x j hx hj => by
    simp only [Bool.or_eq_true, beq_iff_eq] at hx ⊢
    rcases hx with hx | rfl
    · exact .inl (m.down x j hx hj)
    · exact .inl (hr j hj)
  rcdown := m.rcdown
  env := m.env
  envn := m.envn
  dst := m.dst
  split := m.split

/-- The machine does an operation that the abstract run has done. -/
theorem Mid.pending (m : Mid P ops items M0 h0 w0 s0 L rc l s h M a w) (pl : Plan ops items) {i : Nat} {e : Ent} (hi : (i, e) ∈ rc) (hL : L i = false) (hr : ∀ j, Anc ops j i → L j = true)
    {K : Act → World → Prop} {Qc : Exit → Act → World → Prop} (hK : ∀ M' a' w', Mid P ops items M0 h0 w0 s0 (fun j => L j || j == i) rc l s h M' a' w' → K a' w') : wpOp P ops Qc i K a w := by
  obtain ⟨o, ho, hp⟩ := m.pend i e hi hL
  obtain ⟨pre, suf, hsplit⟩ := List.append_of_mem hi
  obtain ⟨it, hit, hidx, henv⟩ := m.env pre i e suf hsplit
  subst hidx
  have hnd := nodup_split (hsplit ▸ m.nodup)
  have hsr : ∀ se, e.env = some se → SRel M se a := fun se hse => m.srel (m.envn _ e hi se hse) fun t v ht => by
    obtain ⟨h1, h2⟩ := henv se hse t v ht
    rw [m.ready pl (pre := pre ++ [(it.idx, e)]) (suf := suf) hit (by rw [hsplit, List.append_assoc]; rfl) hnd.1 hL hr (fun j hj => m.rcdown pre it.idx e suf hsplit j hj) h1]
    exact h2
  unfold Go.wpOp
  simp only [ho]
  cases e with
  | w v => exact hp.elim
  | skip se =>
    have sr := hsr se rfl
    rw [guardA_sound sr hp, if_neg (by simp)]
    refine hK M _ w (m.done hi hr m.rel m.post ?_ ?_ (m.put pl hi ho .rfl (VRel.undef M)) (fun _ _ _ _ _ _ _ h => h))
    · cases o.dst <;> exact m.defers
    · cases hd : o.dst <;> simp [Act.put, m.size]
  | r se v =>
    obtain ⟨hg, hv⟩ := hp
    have sr := hsr se rfl
    rw [guardA_sound sr hg, if_pos rfl]
    left
    obtain ⟨w', vc, h1, h2, h3, h4⟩ := evalR_sound sr m.rel hv
    unfold Oper.wp
    rw [h1]
    refine hK M _ w' (m.done hi hr h3 (m.post.trans h4) ?_ ?_ (m.put pl hi ho .rfl h2) (fun _ _ _ _ _ _ _ h => h))
    · cases o.dst <;> exact m.defers
    · cases hd : o.dst <;> simp [Act.put, m.size]
  | a se v id ob =>
    obtain ⟨hg, hv, hob, hMid, hid, hn0⟩ := hp
    have sr := hsr se rfl
    rw [guardA_sound sr hg, if_pos rfl]
    left
    obtain ⟨vc, w1, co, sz, esz, op, h1, g1, g2, g3, g4, h2⟩ := evalA_sound sr m.rel hv
    unfold Oper.wp
    rw [h1]
    have hk := h2 (upd M id ⟨w.heap.size, 0, sz, esz, op⟩) (upd_le hMid) (upd_self _ _ _)
    refine hK _ _ _ (m.done hi hr (m.rel.ghostAlloc g1 hid hMid hob hk.2) (m.post.ghostAlloc g2 g3 g4 hn0 hMid m.b0) ?_ ?_ (m.put pl hi ho (upd_le hMid) hk.1) ?_)
    · cases o.dst <;> exact m.defers
    · cases hd : o.dst <;> simp [Act.put, m.size]
    · intro j e' hj hne hLj x hx hMx
      have : x ≠ id := fun e1 => m.ids j e' it.idx _ hj hi hne x hx (by rw [e1]; rfl)
      simp only [upd, if_neg this]; exact hMx

/-- The abstract run does an operation ahead of the machine. -/
theorem Mid.ahead {it : PItem} (m : Mid P ops items M0 h0 w0 s0 L rc (it :: l) s h M a w) (pl : Plan ops items) {o : Oper} (hit : it ∈ items) (ho : ops[it.idx]? = some o) (hnew : ∀ e, (it.idx, e) ∉ rc)
    (hedges : ∀ j, Anc ops j it.idx → ∃ e, (j, e) ∈ rc) (hd : dstOk s o.dst = true) {e : Ent} {h' : AHeap} (hE : L it.idx = false)
    (rel : Rel M h' w) (post : Post M0 h0 w0 M h' w) (hpend : Pend P ops h0.next h' M it.idx e) (hold : ∀ i e', (i, e') ∈ rc → L i = false → Pend P ops h0.next h' M i e')
    (hnext : h.next ≤ h'.next) (hid : ∀ x, e.id? = some x → x = h.next ∧ x < h'.next) (henv : e.env = some (s.only it.ts)) :
    Mid P ops items M0 h0 w0 s0 L ((it.idx, e) :: rc) l (putO s o.dst e.val) h' M a w where
  rel := rel
  post := post
  b0 := m.b0
  defers := m.defers
  size := m.size
  sn := by cases o.dst <;> exact m.sn
  slots := fun t v hs => by
    refine m.slots t v ?_
    rw [← hs]
    unfold slotOf
    rw [List.find?_cons]
    simp only [hE, Bool.and_false]
  abs := fun t => by
    by_cases hdt : dstAt ops it.idx = some t
    · have hd2 : o.dst = some t := by unfold dstAt at hdt; rw [ho] at hdt; exact hdt
      unfold slotOf
      rw [List.find?_cons]
      simp only [hdt, beq_self_eq_true, Bool.and_true]
      rw [hd2]
      simp [putO, St.put, St.get, lk]
    · have e1 : slotOf ops ((it.idx, e) :: rc) (fun _ => true) s0 t = slotOf ops rc (fun _ => true) s0 t := by
        unfold slotOf
        rw [List.find?_cons]
        have : (dstAt ops it.idx == some t && true) = false := by simpa using hdt
        simp only [this]
      rw [e1, ← m.abs t]
      cases hod : o.dst with
      | none => rfl
      | some d =>
        have hne : d ≠ t := by rintro rfl; apply hdt; unfold dstAt; rw [ho]; exact hod
        simp [putO, St.put, St.get, lk, hne]
  sub := fun i hi => by obtain ⟨e', he'⟩ := m.sub i hi; exact ⟨e', List.mem_cons_of_mem _ he'⟩
  pend := fun i e' hi hLi => by
    rcases List.mem_cons.1 hi with h1 | h1
    · cases h1; exact hpend
    · exact hold i e' h1 hLi
  nodup := by
    simp only [List.map_cons, List.nodup_cons]
    refine ⟨fun hm => ?_, m.nodup⟩
    obtain ⟨p, hp, he⟩ := List.mem_map.1 hm
    obtain ⟨i, e'⟩ := p
    simp only [] at he; subst he
    exact hnew e' hp
  ids := fun i e1 j e2 hi hj hne x hx hx2 => by
    rcases List.mem_cons.1 hi with h1 | h1 <;> rcases List.mem_cons.1 hj with h2 | h2
    · cases h1; cases h2; exact hne rfl
    · cases h1
      have := m.idlt j e2 h2 x hx2
      have := (hid x hx).1
      omega
    · cases h2
      have := m.idlt i e1 h1 x hx
      have := (hid x hx2).1
      omega
    · exact m.ids i e1 j e2 h1 h2 hne x hx hx2
  idlt := fun i e1 hi x hx => by
    rcases List.mem_cons.1 hi with h1 | h1
    · cases h1; exact (hid x hx).2
    · exact Nat.lt_of_lt_of_le (m.idlt i e1 h1 x hx) hnext
  down := m.down
  rcdown := fun pre i e1 suf hs j hj => by
    cases pre with
    | nil =>
      simp only [List.nil_append, List.cons.injEq, Prod.mk.injEq] at hs
      obtain ⟨⟨rfl, rfl⟩, rfl⟩ := hs
      exact hedges j hj
    | cons p pre =>
      simp only [List.cons_append, List.cons.injEq] at hs
      exact m.rcdown pre i e1 suf hs.2 j hj
  env := fun pre i e1 suf hs => by
    cases pre with
    | nil =>
      simp only [List.nil_append, List.cons.injEq, Prod.mk.injEq] at hs
      obtain ⟨⟨rfl, rfl⟩, rfl⟩ := hs
      refine ⟨it, hit, rfl, fun se hse t v ht => ?_⟩
      rw [henv] at hse
      obtain rfl := Option.some.inj hse
      obtain ⟨h1, h2⟩ := only_get s it.ts t v ht
      exact ⟨h1, by rw [← m.abs t]; exact h2⟩
    | cons p pre =>
      simp only [List.cons_append, List.cons.injEq] at hs
      exact m.env pre i e1 suf hs.2
  envn := fun i e1 hi se hse => by
    rcases List.mem_cons.1 hi with h1 | h1
    · cases h1
      rw [henv] at hse
      obtain rfl := Option.some.inj hse
      exact m.sn
    · exact m.envn i e1 h1 se hse
  dst := fun i e1 hi o' ho' d hd' => by
    rcases List.mem_cons.1 hi with h1 | h1
    · cases h1
      rw [ho] at ho'; obtain rfl := Option.some.inj ho'
      rw [hd'] at hd
      rw [← m.sn]; exact of_decide_eq_true hd
    · exact m.dst i e1 h1 o' ho' d hd'
  split := fun it' hit' => by
    rcases m.split it' hit' with ⟨e', he'⟩ | hm
    · exact .inl ⟨e', List.mem_cons_of_mem _ he'⟩
    · rcases List.mem_cons.1 hm with rfl | hm
      · exact .inl ⟨e, by simp⟩
      · exact .inr hm
end
end Ab
