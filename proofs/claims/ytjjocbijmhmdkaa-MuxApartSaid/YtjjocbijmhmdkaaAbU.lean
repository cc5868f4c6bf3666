import Derived.Test.YtjjocbijmhmdkaaAbT
namespace Ab
open Go
set_option autoImplicit false
set_option linter.unusedVariables false
set_option linter.unusedSimpArgs false

theorem Plan.of {ops : Array Oper} {items : List PItem} (h : planOk ops items = true) : Plan ops items ∧ planGo ops (ancs ops.toList) [] none items = true := by
  unfold planOk at h
  simp only [Bool.and_eq_true, decide_eq_true_eq] at h
  obtain ⟨⟨⟨hgo, hlen⟩, hall⟩, hsl⟩ := h
  refine ⟨?_, hgo⟩
  rw [List.all_eq_true] at hall
  have hlt : ∀ (l : List PItem) (seen : List Nat) (k : Option Nat), planGo ops (ancs ops.toList) seen k l = true → ∀ it ∈ l, it.idx < ops.size := by
    intro l
    induction l with
    | nil => intro _ _ _ it h; cases h
    | cons x l ih =>
      intro seen k hp it hm
      cases x with
      | n i ts =>
        simp only [planGo, Bool.and_eq_true, decide_eq_true_eq] at hp
        rcases List.mem_cons.1 hm with rfl | hm
        · exact hp.1.1.2
        · exact ih _ _ hp.2 it hm
      | w i ts rs =>
        simp only [planGo, Bool.and_eq_true, decide_eq_true_eq] at hp
        rcases List.mem_cons.1 hm with rfl | hm
        · exact hp.1.1.1.2
        · exact ih _ _ hp.2 it hm
  constructor
  · intro i hi
    have := hall i (by simpa using hi)
    simp only [Bool.and_eq_true] at this
    have h1 := this.1
    rw [List.contains_iff_mem] at h1
    obtain ⟨it, hm, he⟩ := List.mem_map.1 h1
    exact ⟨it, hm, he⟩
  · exact hlt items [] none hgo
  · intro i hi j hj
    have := hall i (by simpa using hi)
    simp only [Bool.and_eq_true, List.all_eq_true, decide_eq_true_eq] at this
    exact this.2 j hj
  · intro a ha b hb hne d hd
    unfold slotsOk at hsl
    rw [List.all_eq_true] at hsl
    have h1 := hsl a ha
    rw [List.all_eq_true] at h1
    have h2 := h1 b hb
    have hne' : (a.idx == b.idx) = false := by simpa using hne
    rw [hne', Bool.false_or, hd] at h2
    simp only [Bool.and_eq_true, bne_iff_ne, ne_eq, Bool.or_eq_true, Bool.not_eq_true'] at h2
    refine ⟨h2.1, fun hts => ?_⟩
    rcases h2.2 with (h3 | h3) | h3
    · have : a.ts.contains d = true := by rw [List.contains_iff_mem]; exact hts
      rw [h3] at this; cases this
    · exact .inl (ancs_sound h3)
    · exact .inr (ancs_sound h3)

theorem mem_ready {ops : Array Oper} {listed : Array Bool} (hsz : listed.size = ops.size) {i : Nat} : i ∈ Region.ready .any ops listed ↔ i < ops.size ∧ listed.getD i false = false ∧ ∀ j ∈ edgesAt ops i, listed.getD j false = true := by
  unfold Region.ready
  rw [List.mem_filter, List.mem_range]
  constructor
  · rintro ⟨hi, h⟩
    simp only [Bool.and_eq_true, Bool.not_eq_true'] at h
    refine ⟨hi, ?_, ?_⟩
    · have := h.1
      have hl : i < listed.size := by omega
      simp only [Array.getD, hl, dite_true] at this ⊢
      exact this
    · intro j hj
      have h2 := h.2
      have ho : ops[i]? = some ops[i] := Array.getElem?_eq_getElem hi
      rw [ho] at h2
      simp only [Option.map_some, Option.getD_some] at h2
      unfold edgesAt at hj
      rw [ho] at hj
      unfold edgesOf at hj
      obtain ⟨e, he, hx⟩ := List.mem_filterMap.1 hj
      split at hx
      · rename_i hb
        obtain rfl := Option.some.inj hx
        rw [Array.all_eq_true'] at h2
        have := h2 e (by simpa using he)
        simpa [hb] using this
      · cases hx
  · rintro ⟨hi, h1, h2⟩
    refine ⟨hi, ?_⟩
    have hl : i < listed.size := by omega
    have ho : ops[i]? = some ops[i] := Array.getElem?_eq_getElem hi
    rw [ho]
    simp only [Option.map_some, Option.getD_some, Bool.and_eq_true, Bool.not_eq_true']
    refine ⟨by simp only [Array.getD, hl, dite_true] at h1 ⊢; exact h1, ?_⟩
    rw [Array.all_eq_true']
    intro e he
    by_cases hb : Region.binds .any e = true
    · have := h2 e.on (by
        unfold edgesAt; rw [ho]
        exact List.mem_filterMap.2 ⟨e, by simpa using he, by rw [if_pos hb]⟩)
      simp [this]
    · simp [hb]

theorem getD_set {listed : Array Bool} {i : Nat} (hi : i < listed.size) : (fun j => (listed.setIfInBounds i true).getD j false) = fun j => listed.getD j false || j == i := by
  funext j
  rw [Array.getD_eq_getD_getElem?, Array.getD_eq_getD_getElem?]
  by_cases e : j = i
  · subst e; rw [Array.getElem?_setIfInBounds_self_of_lt hi]; simp
  · rw [Array.getElem?_setIfInBounds_ne (Ne.symm e)]
    have : (j == i) = false := by simpa using e
    simp [this]

theorem find_congr {α : Type} {p q : α → Bool} : ∀ {l : List α}, (∀ x ∈ l, p x = q x) → l.find? p = l.find? q
  | [], _ => rfl
  | x :: l, h => by
    rw [List.find?_cons, List.find?_cons, h x (by simp), find_congr (l := l) fun y hy => h y (by simp [hy])]

theorem draw_main {P : Program} {ops : Array Oper} {items : List PItem} {M0 : Mp} {h0 : AHeap} {w0 : World} {s0 : St} {Q : St → AHeap → Prop} {Qc : Exit → Act → World → Prop} (pl : Plan ops items)
    (hq : ∀ M s h a w, Q s h → SRel M s a → Rel M h w → Post M0 h0 w0 M h w → Qc .normal a w) :
    ∀ (fuel : Nat) (listed : Array Bool), listed.size = ops.size → fuel + listed.toList.count true = ops.size → ∀ (rc : List (Nat × Ent)) (lastW : Option Nat) (l : List PItem) (s : St) (h : AHeap) (M : Mp) (a : Act) (w : World),
      Mid P ops items M0 h0 w0 s0 (fun j => listed.getD j false) rc l s h M a w → (∀ it ∈ l, it ∈ items) → planGo ops (ancs ops.toList) (rc.map (·.1)) lastW l = true → awpD P ops Q l rc s h →
      (l = [] ∨ ∃ i ts rs l2, l = .w i ts rs :: l2) → wpAny P .any ops Qc fuel listed a w := by
  have hbits : ∀ i j, an (ancs ops.toList) j i = true → Anc ops j i := fun i j h => ancs_sound h
  -- all is done
  have fin : ∀ (listed : Array Bool), listed.size = ops.size → (∀ i, i < ops.size → listed.getD i false = true) → ∀ (rc : List (Nat × Ent)) (lastW : Option Nat) (l : List PItem) (s : St) (h : AHeap) (M : Mp) (a : Act) (w : World),
      Mid P ops items M0 h0 w0 s0 (fun j => listed.getD j false) rc l s h M a w → (∀ it ∈ l, it ∈ items) → planGo ops (ancs ops.toList) (rc.map (·.1)) lastW l = true → awpD P ops Q l rc s h →
      (l = [] ∨ ∃ i ts rs l2, l = .w i ts rs :: l2) → Qc .normal a w := by
    intro listed hsz hall rc lastW l s h M a w m hsub hp k hl
    rcases hl with rfl | ⟨i, ts, rs, l2, rfl⟩
    · refine hq M s h a w k ⟨m.defers, m.size.trans m.sn.symm, fun t v ht => m.slots t v ?_⟩ m.rel m.post
      rw [m.abs t] at ht
      rw [← ht]
      unfold slotOf
      have : rc.find? (fun p => dstAt ops p.1 == some t && listed.getD p.1 false) = rc.find? (fun p => dstAt ops p.1 == some t && true) := by
        apply find_congr
        intro p hp
        obtain ⟨pre, suf, hs⟩ := List.append_of_mem hp
        obtain ⟨it, hit, hidx, _⟩ := m.env pre p.1 p.2 suf hs
        rw [hall p.1 (hidx ▸ pl.lt it hit)]
      rw [this]
    · exfalso
      simp only [planGo, Bool.and_eq_true, Bool.not_eq_true', decide_eq_true_eq] at hp
      obtain ⟨⟨⟨⟨⟨_, hnew⟩, hlt⟩, _⟩, _⟩, _⟩ := hp
      have := m.notL (not_mem_fst hnew)
      rw [hall i hlt] at this; cases this
  have allDone : ∀ (listed : Array Bool), listed.size = ops.size → Region.ready .any ops listed = [] → ∀ i, i < ops.size → listed.getD i false = true := by
    intro listed hsz hr i
    induction i using Nat.strongRecOn with
    | _ i ih =>
      intro hi
      cases hL : listed.getD i false with
      | true => rfl
      | false =>
        have : i ∈ Region.ready .any ops listed := (mem_ready hsz).2 ⟨hi, hL, fun j hj => ih j (pl.low i hi j hj) (Nat.lt_trans (pl.low i hi j hj) hi)⟩
        rw [hr] at this; cases this
  intro fuel
  induction fuel with
  | zero =>
    intro listed hsz hcnt rc lastW l s h M a w m hsub hp k hl
    have hall : ∀ i, i < ops.size → listed.getD i false = true := by
      intro i hi
      have hc : listed.toList.count true = listed.toList.length := by rw [Array.length_toList]; omega
      rw [List.count_eq_length] at hc
      have hl2 : i < listed.size := by omega
      have := hc listed[i] (by simp)
      simp only [Array.getD, hl2, dite_true]; exact this.symm
    refine ⟨?_, fin listed hsz hall rc lastW l s h M a w m hsub hp k hl⟩
    rw [List.eq_nil_iff_forall_not_mem]
    intro i hi
    obtain ⟨h1, h2, _⟩ := (mem_ready hsz).1 hi
    rw [hall i h1] at h2; cases h2
  | succ fuel ih =>
    intro listed hsz hcnt rc lastW l s h M a w m hsub hp k hl
    refine ⟨fun hr => fin listed hsz (allDone listed hsz hr) rc lastW l s h M a w m hsub hp k hl, fun i hi => ?_⟩
    obtain ⟨hlt, hL, hedge⟩ := (mem_ready hsz).1 hi
    have hr : ∀ j, Anc ops j i → listed.getD j false = true := by
      intro j hj
      cases hj with
      | edge _ _ o ho hj => exact hedge j (edges_at ho hj)
      | step _ j' _ o hk ho hj' => exact m.down j' j (hedge j' (edges_at ho hj')) hk
    have hli : i < listed.size := by omega
    have hsz' : (listed.setIfInBounds i true).size = ops.size := by simpa using hsz
    have hcnt' : fuel + (listed.setIfInBounds i true).toList.count true = ops.size := by
      rw [Array.toList_setIfInBounds, List.count_set (by simpa using hli)]
      have hf : (listed.toList[i]'(by simpa using hli)) = false := by
        simp only [Array.getD, hli, dite_true] at hL
        simpa using hL
      simp only [hf, Bool.false_beq, Bool.not_true, Bool.false_eq_true, if_false, beq_self_eq_true, if_true, Nat.sub_zero]
      omega
    have next : ∀ (rc : List (Nat × Ent)) (lastW : Option Nat) (l : List PItem) (s : St) (h : AHeap) (M : Mp) (a : Act) (w : World), Mid P ops items M0 h0 w0 s0 (fun j => listed.getD j false || j == i) rc l s h M a w → (∀ it ∈ l, it ∈ items) →
        planGo ops (ancs ops.toList) (rc.map (·.1)) lastW l = true → awpD P ops Q l rc s h → wpAny P .any ops Qc fuel (listed.setIfInBounds i true) a w := by
      intro rc lastW l s h M a w m hsub hp k
      obtain ⟨rc', l', s', h', m', hsub', hp', k', hl'⟩ := m.eager pl hbits l rc lastW s h hsub hp k
      exact ih _ hsz' hcnt' rc' lastW l' s' h' M a w (by rw [getD_set hli]; exact m') hsub' hp' k' hl'
    by_cases hin : ∃ e, (i, e) ∈ rc
    · obtain ⟨e, he⟩ := hin
      exact m.pending pl he hL hr fun M' a' w' m' => next rc lastW l s h M' a' w' m' hsub hp k
    · -- it is the writing operation that comes next
      have hni : ∀ e, (i, e) ∉ rc := fun e he => hin ⟨e, he⟩
      obtain ⟨it, hit, hidx⟩ := pl.all i hlt
      have hml : it ∈ l := by
        rcases m.split it hit with ⟨e, he⟩ | hml
        · rw [hidx] at he; exact absurd he (hni e)
        · exact hml
      rcases hl with rfl | ⟨i', ts, rs, l2, rfl⟩
      · cases hml
      · have hp0 := hp
        simp only [planGo, Bool.and_eq_true, Bool.not_eq_true', decide_eq_true_eq] at hp
        obtain ⟨⟨⟨⟨⟨he, hnew⟩, hlt'⟩, hlw⟩, hst⟩, hgo⟩ := hp
        have hnew' := not_mem_fst hnew
        have hii : i' = i := by
          rcases List.mem_cons.1 hml with h1 | h1
          · rw [h1] at hidx; exact hidx
          · exfalso
            have := planGo_anc hbits l2 _ i' hgo it h1
            rw [hidx] at this
            have h2 := m.notL hnew'
            have h3 := hr i' this
            rw [h3] at h2; cases h2
        subst hii
        have hedges := m.anc_in (edges_in he)
        have hitw : PItem.w i' ts rs ∈ items := hsub _ (by simp)
        have hsub2 : ∀ it ∈ l2, it ∈ items := fun it h => hsub it (by simp [h])
        simp only [awpD] at k
        cases ho : ops[i']? with
        | none => rw [ho] at k; exact k.elim
        | some o =>
          rw [ho] at k
          obtain ⟨hd, k⟩ := k
          have sr : SRel M (s.only ts) a := m.srel m.sn fun t v ht => by
            obtain ⟨h1, h2⟩ := only_get s ts t v ht
            rw [m.ready pl (it := .w i' ts rs) (pre := []) (suf := rc) hitw rfl hnew' hL hr hedges h1, ← m.abs t]
            exact h2
          split at k
          · rename_i hg
            have m1 := m.ahead (it := .w i' ts rs) pl hitw ho hnew' hedges hd (e := .skip (s.only ts)) hL m.rel m.post ⟨o, ho, hg⟩ m.pend (Nat.le_refl _) (fun x hx => by cases hx) rfl
            exact m1.pending pl (i := i') (e := .skip (s.only ts)) (List.mem_cons_self ..) hL hr fun M' a' w' m' => next _ (some i') l2 _ _ M' a' w' m' hsub2 hgo k
          · rename_i hg
            unfold Go.wpOp
            simp only [ho]
            rw [guardA_sound sr hg, if_pos rfl]
            left
            refine Oper.upon_mono ?_ (stepA_sound sr m.rel k Qc)
            rintro a' w' ⟨v, vc, M', h', ⟨hstill, k'⟩, rfl, hv, hrel, hpost⟩
            have hold : ∀ j e', (j, e') ∈ rc → listed.getD j false = false → Pend P ops h0.next h' M' j e' := by
              intro j e' hj hLj
              obtain ⟨oj, hoj, hpj⟩ := m.pend j e' hj hLj
              rw [List.all_eq_true] at hst
              have hc := hst j (List.mem_map.2 ⟨_, hj, rfl⟩)
              simp only [Bool.or_eq_true] at hc
              have hc' : rs.contains j = true ∨ pureAt ops j = true := by
                rcases hc with (hc | hc) | hc
                · have := hr j (hbits _ _ hc); rw [this] at hLj; cases hLj
                · exact .inl hc
                · exact .inr hc
              refine ⟨oj, hoj, ?_⟩
              cases e' with
              | skip se => exact hpj
              | w u => exact hpj
              | r se u =>
                refine ⟨hpj.1, ?_⟩
                rcases hc' with hc | hc
                · have := still_mem hstill hj hc
                  simp only [hoj] at this
                  exact this
                · unfold pureAt at hc
                  rw [hoj] at hc
                  rw [evalR_pure hpost.base hc]; exact hpj.2
              | a se u id ob =>
                obtain ⟨p1, p2, p3, p4, p5, p6⟩ := hpj
                refine ⟨p1, by rw [hpost.base]; exact p2, ?_, hpost.ghost id p5 p4, Nat.lt_of_lt_of_le p5 hpost.next, p6⟩
                rcases hc' with hc | hc
                · exact still_mem hstill hj hc
                · unfold pureAt at hc
                  rw [hoj] at hc
                  exact (evalA_notPure p2 hc).elim
            have m1 := m.write (it := .w i' ts rs) pl hitw ho hnew' hedges hr hd hrel hpost hv hold
            exact next _ (some i') l2 _ _ M' _ w' m1 hsub2 hgo k'
          · exact k.elim

/-- A region whose order is drawn: run in one order, with what a plan asks beside. -/
theorem AWP.draw {P : Program} (hmix : P.follows .mixedOrders = true) {id : Nat} {ops : Array Oper} {Q : Exit → St → AHeap → Prop} {s : St} {h : AHeap} (items : List PItem) (hp : planOk ops items = true)
    (k : awpD P ops (Q .normal) items [] s h) : AWP P (.region id ops true) Q s h := by
  intro M a w sr r
  obtain ⟨pl, hgo⟩ := Plan.of hp
  have hbits : ∀ i j, an (ancs ops.toList) j i = true → Anc ops j i := fun i j h => ancs_sound h
  refine wp_region_any hmix ?_
  have hw : ({ w with drawn := w.drawn + 1 } : World).heap = w.heap := rfl
  let L0 : Nat → Bool := fun j => (Array.replicate ops.size false).getD j false
  have hL0 : ∀ j, L0 j = false := fun j => by
    show (Array.replicate ops.size false).getD j false = false
    rw [Array.getD_eq_getD_getElem?, Array.getElem?_replicate]; split <;> rfl
  have m0 : Mid P ops items M h w s L0 [] items s h M a { w with drawn := w.drawn + 1 } := {
    rel := r.world hw
    post := Post.world hw rfl rfl rfl
    b0 := r.bsz
    defers := sr.defers
    size := sr.size
    sn := rfl
    slots := fun t v ht => sr.get t v ht
    abs := fun t => rfl
    sub := fun i hi => by rw [hL0] at hi; cases hi
    pend := fun i e hm => by cases hm
    nodup := List.nodup_nil
    ids := fun i e j e' hm => by cases hm
    idlt := fun i e hm => by cases hm
    down := fun i j hi => by rw [hL0] at hi; cases hi
    rcdown := fun pre i e suf hs => by simp at hs
    env := fun pre i e suf hs => by simp at hs
    envn := fun i e hm => by cases hm
    dst := fun i e hm => by cases hm
    split := fun it hit => .inr hit }
  obtain ⟨rc', l', s', h', m', hsub', hp', k', hl'⟩ := m0.eager pl hbits items [] none s h (fun it h => h) hgo k
  exact draw_main pl (fun M' s' h' a' w' q sr' r' p' => ⟨M', s', h', q, sr', r', p'⟩) ops.size _ (by simp) (by simp [List.count_replicate]) rc' none l' s' h' M a _ m' hsub' hp' k' hl'
end Ab
