import Derived.Test.YtjjocbijmhmdkaaAbH
namespace Ab
open Go
set_option autoImplicit false
set_option linter.unusedVariables false
set_option linter.unusedSimpArgs false

theorem Rel.kill {M : Mp} {h : AHeap} {w : World} (r : Rel M h w) (i : Nat) : Rel M (h.kill i) w where
  live := fun j o b hj hM => by
    simp only [AHeap.kill] at hj
    split at hj
    · cases hj
    · exact r.live j o b hj hM
  inj := fun j k b b' hj hk => by
    simp only [AHeap.kill] at hj hk
    split at hj
    · cases hj
    · split at hk
      · cases hk
      · exact r.inj j k b b' hj hk
  fresh := r.fresh
  glob := r.glob
  inb := r.inb
  ble := r.ble
  bnd := fun j hj => by simp only [AHeap.kill]; split; rfl; exact r.bnd j hj
  oldro := fun j o hj hjo => by
    simp only [AHeap.kill] at hjo
    split at hjo
    · cases hjo
    · exact r.oldro j o hj hjo
  nb := r.nb

theorem push_kill (h : AHeap) (i j : Nat) (o : AObj) : ((h.kill i).push o).obj j = if j = h.next then some o else if j = i then none else h.obj j := rfl

/-- A row (or the part of it from `off` on) is seen as a row of its own, the elder one given up: of cells beyond what was known nothing is known. -/
theorem Rel.review {M : Mp} {h : AHeap} {w : World} (r : Rel M h w) {i off : Nat} {c c2 : List Value} {e : TypeId} {sz : Nat} {ti : Bool} {b : Blk}
    (ho : h.obj i = some (.row c e sz ti false)) (hM : M i = some b) (hi : h.base ≤ i) (hle : off + c2.length ≤ b.size) (hc : ∀ j v, c2[j]? = some v → v = poison ∨ c[off + j]? = some v) :
    Rel (upd M h.next ⟨b.blk, b.base + off, b.size - off, b.esz, true⟩) ((h.kill i).push (.row c2 e sz false false)) w ∧
    Post M h w (upd M h.next ⟨b.blk, b.base + off, b.size - off, b.esz, true⟩) ((h.kill i).push (.row c2 e sz false false)) w := by
  have hn : M h.next = none := r.fresh _ (Nat.le_refl _)
  have hle' := upd_le (b := ⟨b.blk, b.base + off, b.size - off, b.esz, true⟩) hn
  have hin : i ≠ h.next := fun e => by subst e; rw [hn] at hM; cases hM
  obtain ⟨cc, lo, hi', h1, h2, h3, h4, h5, h6, h7⟩ := r.live i _ b ho hM
  constructor
  · constructor
    · intro j o b' hj hMj
      rw [push_kill] at hj
      by_cases ej : j = h.next
      · subst ej
        rw [if_pos rfl] at hj
        obtain rfl := Option.some.inj hj
        simp only [upd, if_pos] at hMj
        obtain rfl := Option.some.inj hMj
        refine ⟨cc, lo, hi', h1, by simp only []; omega, by simp only []; omega, h4, (fun h => by cases h), h6, fun k v hk => ?_⟩
        rcases hc k v hk with rfl | hv
        · have hk2 : k < c2.length := (List.getElem?_eq_some_iff.1 hk).1
          have hlt : b.base + off + k < cc.size := by omega
          exact ⟨cc[b.base + off + k], Array.getElem?_eq_getElem hlt, .any _⟩
        · obtain ⟨vc, hvc, hr⟩ := h7 (off + k) v hv
          exact ⟨vc, by simp only []; rw [Nat.add_assoc]; exact hvc, hr.mono hle'⟩
      · rw [if_neg ej] at hj
        split at hj
        · cases hj
        · simp only [upd, if_neg ej] at hMj
          exact (r.live j o b' hj hMj).mono hle' rfl
    · intro j k b1 b2 hj hk hMj hMk e'
      rw [push_kill] at hj hk
      simp only [upd] at hMj hMk
      by_cases ej : j = h.next <;> by_cases ek : k = h.next
      · rw [ej, ek]
      · exfalso
        rw [if_pos ej] at hMj; rw [if_neg ek] at hMk hk
        obtain rfl := Option.some.inj hMj
        split at hk
        · cases hk
        · rename_i hki
          exact hki (r.inj k i b2 b hk (by simp [ho]) hMk hM e'.symm)
      · exfalso
        rw [if_pos ek] at hMk; rw [if_neg ej] at hMj hj
        obtain rfl := Option.some.inj hMk
        split at hj
        · cases hj
        · rename_i hji
          exact hji (r.inj j i b1 b hj (by simp [ho]) hMj hM e')
      · rw [if_neg ej] at hMj hj; rw [if_neg ek] at hMk hk
        split at hj
        · cases hj
        · split at hk
          · cases hk
          · exact r.inj j k b1 b2 hj hk hMj hMk e'
    · intro j hj
      have hj' : h.next + 1 ≤ j := hj
      simp only [upd, if_neg (show ¬ j = h.next by omega)]
      exact r.fresh j (by omega)
    · intro j hj
      obtain ⟨b', g1, g2⟩ := r.glob j hj
      exact ⟨b', hle' _ _ g1, g2⟩
    · intro j b1 hMj
      simp only [upd] at hMj
      split at hMj
      · obtain rfl := Option.some.inj hMj; exact r.inb i b hM
      · exact r.inb j b1 hMj
    · exact Nat.le_trans r.ble (Nat.le_succ _)
    · intro j hj
      have hj' : h.next + 1 ≤ j := hj
      rw [push_kill, if_neg (by omega)]
      split
      · rfl
      · exact r.bnd j (by omega)
    · intro j o hj hjo
      have hj' : j < h.base := hj
      have hble := r.ble
      rw [push_kill, if_neg (by omega)] at hjo
      split at hjo
      · cases hjo
      · exact r.oldro j o hj' hjo
    · intro j b1 hj hMj
      simp only [upd] at hMj
      split at hMj
      · obtain rfl := Option.some.inj hMj; exact r.nb i b hi hM
      · exact r.nb j b1 hj hMj
  · constructor
    · exact hle'
    · intro j hj hm
      simp only [upd, if_neg (show ¬ j = h.next by omega)]; exact hm
    · exact Nat.le_succ _
    · rfl
    · exact Nat.le_refl _
    · rfl
    · rfl
    · rfl
    · exact fun _ _ _ => rfl
    · exact fun _ _ => rfl
    · intro j b1 hj hMj
      rw [push_kill] at hj
      simp only [upd] at hMj
      right
      split at hMj
      · obtain rfl := Option.some.inj hMj
        exact ⟨i, b, by simp [ho], hM, rfl⟩
      · rename_i e'
        rw [if_neg e'] at hj
        split at hj
        · cases hj
        · exact ⟨j, b1, hj, hMj, rfl⟩

theorem setL_append : ∀ (l a : List Value) (k : Nat) (z : Value), l.length = k → setL (a ++ List.replicate k z) a.length l = a ++ l
  | [], a, k, z, h => by
    obtain rfl : k = 0 := (by simpa using h.symm)
    simp [setL]
  | v :: l, a, k, z, h => by
    obtain ⟨k, rfl⟩ : ∃ m, k = m + 1 := ⟨k - 1, by simp at h; omega⟩
    simp only [setL, List.replicate_succ]
    have e : (a ++ z :: List.replicate k z).set a.length v = (a ++ [v]) ++ List.replicate k z := by
      rw [List.set_append_right _ _ (Nat.le_refl _)]; simp
    rw [e]
    have := setL_append l (a ++ [v]) k z (by simpa using h)
    rw [List.length_append, List.length_singleton] at this
    rw [this]; simp

def appendW (P : Program) (h : AHeap) (t xt : TypeId) (s x : Value) : Option (Value × AHeap) :=
  match P.underlying t with
  | some (.slice e) => match tsz P e, tby P e, tzero P e with
    | some sz, some by_, some z => match srcCells h sz x with
      | some (n, l) =>
        if noInt P xt = true ∧ 0 < sz ∧ 0 < by_ ∧ z.cells.size = sz ∧ l.all okCell = true then
          match s with
          | .slice none _ _ =>
            if n = 0 then some (.slice none 0 0, h)
            else if n * by_ ≤ 140737488355328 then some (.slice (some ⟨h.next, 0, none⟩) n n, h.push (.row l e sz false false)) else none
          | .slice (some ⟨i, off, none⟩) len cap =>
            if n = 0 then some (.slice (some ⟨i, off, none⟩) len cap, h) else
            match h.obj i with
            | some (.row c e' sz' ti ro) =>
              if sz' = sz ∧ off + len * sz ≤ c.length then
                if len + n ≤ cap then
                  if ro = false ∧ off + len * sz + l.length ≤ c.length then some (.slice (some ⟨i, off, none⟩) (len + n) cap, h.set i (.row (setL c (off + len * sz) l) e' sz' ti ro)) else none
                else if (len + n) * by_ ≤ 140737488355328 then
                  if ti = true then
                    some (.slice (some ⟨h.next, 0, none⟩) (len + n) (len + n), h.push (.row ((c.drop off).take (len * sz) ++ l) e sz false false))
                  else if ro = false ∧ h.base ≤ i ∧ e' = e then
                    some (.slice (some ⟨h.next, 0, none⟩) (len + n) (len + n), (h.kill i).push (.row ((c.drop off).take (len * sz) ++ l) e sz false false))
                  else none
                else none
              else none
            | _ => none
          | _ => none
        else none
      | none => none
    | _, _, _ => none
  | _ => none

/-- The grown row. -/
theorem Rel.grown {M : Mp} {h : AHeap} {w : World} (r : Rel M h w) {c : List Value} {old news : Array Value} {z : Array Value} {e : TypeId} {sz need cap : Nat} (hc : VRels M c.toArray (old ++ news)) (hsz : z.size = sz) (hl : c.length = need * sz)
    (hge : need ≤ cap) :
    let w' : World := { w.drew with heap := w.heap.push (.cells (old ++ news ++ Builtin.zeroCells z (cap - need)) e) }
    let M' := upd M h.next ⟨w.heap.size, 0, cap * sz, sz, true⟩
    Rel M' (h.push (.row c e sz false false)) w' ∧ Post M h w M' (h.push (.row c e sz false false)) w' ∧
      VRel M' (.slice (some ⟨h.next, 0, none⟩) need need) (.slice (some ⟨w.heap.size, 0, none⟩) need cap) := by
  intro w' M'
  have r1 : Rel M h w.drew := r.world rfl
  have hcs : (old ++ news).size = need * sz := by have := hc.1; simp only [List.size_toArray] at this; omega
  have hmul : need * sz ≤ cap * sz := Nat.mul_le_mul_right _ hge
  have hsum : need * sz + (cap - need) * sz = cap * sz := by rw [← Nat.add_mul]; congr 1; omega
  obtain ⟨r2, p2⟩ := r1.alloc (o := .row c e sz false false) (co := .cells (old ++ news ++ Builtin.zeroCells z (cap - need)) e) (sz := cap * sz) (esz := sz) (op := true) (by
    refine ⟨old ++ news ++ Builtin.zeroCells z (cap - need), 0, 0, Array.getElem?_push_size, ?_, ?_, rfl, (fun h => by cases h), (fun _ => .inl rfl), fun j v hj => ?_⟩
    · rw [Array.size_append, hcs, size_zeroCells, hsz]; simp only []; omega
    · simp only []; omega
    · obtain ⟨v', e1, hr⟩ := hc.get? (by simpa using hj)
      refine ⟨v', ?_, hr.mono (upd_le (r1.fresh _ (Nat.le_refl _)))⟩
      simp only [Nat.zero_add]
      rw [Array.getElem?_append_left (Array.getElem?_eq_some_iff.1 e1).1]
      exact e1)
  refine ⟨r2, (Post.world (M := M) (h := h) (w := w) (w' := w.drew) rfl rfl rfl rfl).trans p2, ?_⟩
  have := VRel.slice (M := M') h.next 0 need need cap _ (upd_self _ _ _) (Nat.le_refl _) (.inr ⟨rfl, hge, by simp⟩)
  simpa using this

theorem VRels.append {M : Mp} {a b a' b' : Array Value} (h : VRels M a a') (k : VRels M b b') : VRels M (a ++ b) (a' ++ b') := by
  refine ⟨by simp [h.1, k.1], fun j h1 h2 => ?_⟩
  simp only [Array.getElem_append]
  split
  · rename_i hj
    rw [dif_pos (h.1 ▸ hj)]
    exact h.2 _ _ _
  · rename_i hj
    rw [dif_neg (h.1 ▸ hj)]
    simp only [h.1]
    have := k.2 (j - a'.size) (by simp at h1; have := h.1; omega) (by simp at h2; have := h.1; omega)
    exact this
end Ab
