import Derived.Test.YtjjocbijmhmdkaaAbQ
namespace Ab
open Go
set_option autoImplicit false
set_option linter.unusedVariables false
set_option linter.unusedSimpArgs false

/-- What is laid of an operation that the abstract run has done, and the machine hasn't. -/
def Pend (P : Program) (ops : Array Oper) (n0 : Nat) (h : AHeap) (M : Mp) (i : Nat) (e : Ent) : Prop :=
  ∃ o, ops[i]? = some o ∧ match e with
    | .skip s => guardA ops s o.guard = some false
    | .r s v => guardA ops s o.guard = some true ∧ evalR P h s o.op = some v
    | .a s v id ob => guardA ops s o.guard = some true ∧ evalA P id h.base s o.op = some (v, ob) ∧ h.obj id = some ob ∧ M id = none ∧ id < h.next ∧ n0 ≤ id
    | .w _ => False

def Ent.id? : Ent → Option Nat
  | .a _ _ id _ => some id
  | _ => none

def Ent.env : Ent → Option St
  | .skip s => some s
  | .r s _ => some s
  | .a s _ _ _ => some s
  | .w _ => none

/-- The facts of a plan. -/
structure Plan (ops : Array Oper) (items : List PItem) : Prop where
  all : ∀ i, i < ops.size → ∃ it ∈ items, it.idx = i
  lt : ∀ it ∈ items, it.idx < ops.size
  low : ∀ i, i < ops.size → ∀ j ∈ edgesAt ops i, j < i
  slots : ∀ a ∈ items, ∀ b ∈ items, a.idx ≠ b.idx → ∀ d, dstAt ops b.idx = some d → dstAt ops a.idx ≠ some d ∧ (d ∈ a.ts → Anc ops b.idx a.idx ∨ Anc ops a.idx b.idx)

/-- The middle of a region: `L` tells which operations the machine has done; `rc`: what the abstract run has. -/
structure Mid (P : Program) (ops : Array Oper) (items : List PItem) (M0 : Mp) (h0 : AHeap) (w0 : World) (s0 : St) (L : Nat → Bool) (rc : List (Nat × Ent)) (l : List PItem) (s : St) (h : AHeap) (M : Mp) (a : Act) (w : World) : Prop where
  rel : Rel M h w
  post : Post M0 h0 w0 M h w
  b0 : h0.base ≤ w0.heap.size
  defers : a.defers = []
  size : a.tmps.size = s0.n
  sn : s.n = s0.n
  slots : ∀ t v, slotOf ops rc L s0 t = some v → VRel M v (a.tmps.getD t undef)
  abs : ∀ t, s.get t = slotOf ops rc (fun _ => true) s0 t
  sub : ∀ i, L i = true → ∃ e, (i, e) ∈ rc
  pend : ∀ i e, (i, e) ∈ rc → L i = false → Pend P ops h0.next h M i e
  nodup : (rc.map (·.1)).Nodup
  ids : ∀ i e j e', (i, e) ∈ rc → (j, e') ∈ rc → i ≠ j → ∀ x, e.id? = some x → e'.id? ≠ some x
  idlt : ∀ i e, (i, e) ∈ rc → ∀ x, e.id? = some x → x < h.next
  down : ∀ i j, L i = true → Anc ops j i → L j = true
  rcdown : ∀ pre i e suf, rc = pre ++ (i, e) :: suf → ∀ j, Anc ops j i → ∃ e', (j, e') ∈ suf
  env : ∀ pre i e suf, rc = pre ++ (i, e) :: suf → ∃ it ∈ items, it.idx = i ∧ ∀ se, e.env = some se → ∀ t v, se.get t = some v → t ∈ it.ts ∧ slotOf ops suf (fun _ => true) s0 t = some v
  envn : ∀ i e, (i, e) ∈ rc → ∀ se, e.env = some se → se.n = s0.n
  dst : ∀ i e, (i, e) ∈ rc → ∀ o, ops[i]? = some o → ∀ d, o.dst = some d → d < s0.n
  split : ∀ it ∈ items, (∃ e, (it.idx, e) ∈ rc) ∨ it ∈ l

theorem slotOf_none {ops : Array Oper} {rc : List (Nat × Ent)} {E : Nat → Bool} {s0 : St} {t : Nat} (h : ∀ i e, (i, e) ∈ rc → dstAt ops i = some t → E i = false) : slotOf ops rc E s0 t = s0.get t := by
  unfold slotOf
  have : rc.find? (fun p => dstAt ops p.1 == some t && E p.1) = none := by
    rw [List.find?_eq_none]
    rintro ⟨i, e⟩ hm
    simp only [Bool.and_eq_true, beq_iff_eq, not_and, Bool.not_eq_true]
    exact fun hd => h i e hm hd
  rw [this]

theorem slotOf_some {ops : Array Oper} {rc : List (Nat × Ent)} {E : Nat → Bool} {s0 : St} {t j : Nat} {e : Ent} (hm : (j, e) ∈ rc) (hd : dstAt ops j = some t) (hE : E j = true)
    (hu : ∀ i e', (i, e') ∈ rc → dstAt ops i = some t → i = j) (hn : (rc.map (·.1)).Nodup) : slotOf ops rc E s0 t = some e.val := by
  unfold slotOf
  cases hf : rc.find? (fun p => dstAt ops p.1 == some t && E p.1) with
  | none =>
    rw [List.find?_eq_none] at hf
    have := hf (j, e) hm
    simp [hd, hE] at this
  | some p =>
    obtain ⟨i, e'⟩ := p
    have hmem := List.mem_of_find?_eq_some hf
    have hp := List.find?_some hf
    simp only [Bool.and_eq_true, beq_iff_eq] at hp
    have hij := hu i e' hmem hp.1
    subst hij
    have : e' = e := by
      clear hf
      induction rc with
      | nil => cases hm
      | cons q rc ih =>
        simp only [List.map_cons, List.nodup_cons] at hn
        rcases List.mem_cons.1 hm with h1 | h1 <;> rcases List.mem_cons.1 hmem with h2 | h2
        · rw [← h1] at h2; cases h2; rfl
        · exfalso; apply hn.1; rw [← h1]; exact List.mem_map.2 ⟨_, h2, rfl⟩
        · exfalso; apply hn.1; rw [← h2]; exact List.mem_map.2 ⟨_, h1, rfl⟩
        · exact ih hn.2 h2 h1 (fun i e' hm => hu i e' (List.mem_cons_of_mem _ hm))
    rw [this]

section
variable {P : Program} {ops : Array Oper} {items : List PItem} {M0 : Mp} {h0 : AHeap} {w0 : World} {s0 : St} {L : Nat → Bool} {rc : List (Nat × Ent)} {l : List PItem} {s : St} {h : AHeap} {M : Mp} {a : Act} {w : World}

/-- Who writes a slot is one. -/
theorem Mid.writer (m : Mid P ops items M0 h0 w0 s0 L rc l s h M a w) (pl : Plan ops items) {i j : Nat} {e e' : Ent} {t : Nat} (hi : (i, e) ∈ rc) (hj : (j, e') ∈ rc) (hdi : dstAt ops i = some t) (hdj : dstAt ops j = some t) : i = j := by
  by_cases hij : i = j
  · exact hij
  · exfalso
    obtain ⟨p1, s1, h1⟩ := List.append_of_mem hi
    obtain ⟨p2, s2, h2⟩ := List.append_of_mem hj
    obtain ⟨a1, ha1, rfl, _⟩ := m.env p1 i e s1 h1
    obtain ⟨a2, ha2, rfl, _⟩ := m.env p2 j e' s2 h2
    exact (pl.slots a1 ha1 a2 ha2 hij t hdj).1 hdi

theorem nodup_split {pre suf : List (Nat × Ent)} {i : Nat} {e : Ent} (hn : ((pre ++ (i, e) :: suf).map (·.1)).Nodup) : (∀ e', (i, e') ∉ suf) ∧ (∀ e', (i, e') ∉ pre) := by
  simp only [List.map_append, List.map_cons] at hn
  rw [List.nodup_append] at hn
  obtain ⟨h1, h2, h3⟩ := hn
  rw [List.nodup_cons] at h2
  refine ⟨fun e' hm => h2.1 (List.mem_map.2 ⟨_, hm, rfl⟩), fun e' hm => ?_⟩
  exact h3 i (List.mem_map.2 ⟨_, hm, rfl⟩) i (by simp) rfl

/-- The operands of an operation that is ready are what they were in the abstract run. -/
theorem Mid.ready (m : Mid P ops items M0 h0 w0 s0 L rc l s h M a w) (pl : Plan ops items) {pre suf : List (Nat × Ent)} {it : PItem} (hit : it ∈ items)
    (hrc : rc = pre ++ suf) (hnot : ∀ e, (it.idx, e) ∉ suf) (hL : L it.idx = false) (hr : ∀ j, Anc ops j it.idx → L j = true) (hsuf : ∀ j, Anc ops j it.idx → ∃ e, (j, e) ∈ suf)
    {t : Nat} (ht : t ∈ it.ts) : slotOf ops rc L s0 t = slotOf ops suf (fun _ => true) s0 t := by
  have hnd : (suf.map (·.1)).Nodup := by
    have := m.nodup
    rw [hrc, List.map_append, List.nodup_append] at this
    exact this.2.1
  by_cases hw : ∃ j e, (j, e) ∈ rc ∧ dstAt ops j = some t ∧ j ≠ it.idx
  · obtain ⟨j, e, hj, hd, hne⟩ := hw
    obtain ⟨p1, s1, h1⟩ := List.append_of_mem hj
    obtain ⟨b, hb, rfl, _⟩ := m.env p1 j e s1 h1
    rcases (pl.slots it hit b hb (Ne.symm hne) t hd).2 ht with hanc | hanc
    · -- the writer stands ahead
      obtain ⟨e2, he2⟩ := hsuf _ hanc
      have hmem : (b.idx, e2) ∈ rc := by rw [hrc]; exact List.mem_append_right _ he2
      have hu : ∀ i e', (i, e') ∈ rc → dstAt ops i = some t → i = b.idx := fun i e' hi hdi => m.writer pl hi hmem hdi hd
      rw [slotOf_some hmem hd (hr _ hanc) hu m.nodup, slotOf_some he2 hd rfl (fun i e' hi hdi => hu i e' (by rw [hrc]; exact List.mem_append_right _ hi) hdi) hnd]
    · -- the writer stands behind: neither has done it
      have hLb : L b.idx = false := by
        cases hb2 : L b.idx with
        | false => rfl
        | true => have := m.down _ _ hb2 hanc; rw [hL] at this; cases this
      have hbs : ∀ e', (b.idx, e') ∉ suf := by
        intro e' hm
        obtain ⟨p2, s2, h2⟩ := List.append_of_mem hm
        obtain ⟨e3, h3⟩ := m.rcdown (pre ++ p2) b.idx e' s2 (by rw [hrc, h2, List.append_assoc]) _ hanc
        exact hnot e3 (by rw [h2]; exact List.mem_append_right _ (List.mem_cons_of_mem _ h3))
      rw [slotOf_none, slotOf_none]
      · intro i e' hi hdi
        exfalso
        have : i = b.idx := m.writer pl (by rw [hrc]; exact List.mem_append_right _ hi) hj hdi hd
        subst this
        exact hbs _ hi
      · intro i e' hi hdi
        have : i = b.idx := m.writer pl hi hj hdi hd
        subst this; exact hLb
  · have hw2 : ∀ i e, (i, e) ∈ rc → dstAt ops i = some t → i = it.idx := fun i e hi hd => by
      by_cases hx : i = it.idx
      · exact hx
      · exact absurd ⟨i, e, hi, hd, hx⟩ hw
    rw [slotOf_none, slotOf_none]
    · intro i e hi hd
      have := hw2 i e (by rw [hrc]; exact List.mem_append_right _ hi) hd
      subst this
      exact absurd hi (hnot e)
    · intro i e hi hd
      have := hw2 i e hi hd
      subst this; exact hL

/-- So an operation's operands are related. -/
theorem Mid.srel (m : Mid P ops items M0 h0 w0 s0 L rc l s h M a w) {se : St} (hn : se.n = s0.n) (hg : ∀ t v, se.get t = some v → slotOf ops rc L s0 t = some v) : SRel M se a :=
  ⟨m.defers, m.size.trans hn.symm, fun t v ht => m.slots t v (hg t v ht)⟩

/-- A slot is written. -/
theorem Mid.put (m : Mid P ops items M0 h0 w0 s0 L rc l s h M a w) (pl : Plan ops items) {i : Nat} {e : Ent} {o : Oper} (hi : (i, e) ∈ rc) (ho : ops[i]? = some o) {M' : Mp} (hle : M.le M') {vc : Value} (hv : VRel M' e.val vc) :
    ∀ t v, slotOf ops rc (fun j => L j || j == i) s0 t = some v → VRel M' v ((a.put o.dst vc).tmps.getD t undef) := by
  intro t v hs
  by_cases hd : dstAt ops i = some t
  · have hd2 : o.dst = some t := by unfold dstAt at hd; rw [ho] at hd; exact hd
    rw [slotOf_some hi hd (by simp) (fun j e' hj hdj => m.writer pl hj hi hdj hd) m.nodup] at hs
    obtain rfl := Option.some.inj hs
    have hlt : t < a.tmps.size := by rw [m.size]; exact m.dst i e hi o ho t hd2
    rw [hd2]
    simpa [Act.put, Array.getD, hlt] using hv
  · have e1 : slotOf ops rc (fun j => L j || j == i) s0 t = slotOf ops rc L s0 t := by
      unfold slotOf
      have : rc.find? (fun p => dstAt ops p.1 == some t && (L p.1 || p.1 == i)) = rc.find? (fun p => dstAt ops p.1 == some t && L p.1) := by
        congr 1
        funext p
        by_cases hp : p.1 = i
        · rw [hp]
          have : (dstAt ops i == some t) = false := by simpa using hd
          simp [this]
        · have : (p.1 == i) = false := by simpa using hp
          simp [this]
      rw [this]
    rw [e1] at hs
    have h2 := (m.slots t v hs).mono hle
    have e2 : (a.put o.dst vc).tmps.getD t undef = a.tmps.getD t undef := by
      cases hod : o.dst with
      | none => rfl
      | some d =>
        have hne : d ≠ t := by
          rintro rfl
          apply hd; unfold dstAt; rw [ho]; exact hod
        show (a.tmps.setIfInBounds d vc).getD t undef = _
        rw [Array.getD_eq_getD_getElem?, Array.getD_eq_getD_getElem?, Array.getElem?_setIfInBounds_ne hne]
    rw [e2]; exact h2
end
end Ab
