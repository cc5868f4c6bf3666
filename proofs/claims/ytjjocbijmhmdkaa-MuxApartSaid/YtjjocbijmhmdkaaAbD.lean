import Derived.Test.YtjjocbijmhmdkaaAbC
namespace Ab
open Go
set_option autoImplicit false
set_option linter.unusedVariables false
set_option linter.unusedSimpArgs false

def _root_.Go.Value.known : Value → Bool
  | .complex _ _ _ => false
  | _ => true

def AHeap.set (h : AHeap) (i : Nat) (o : AObj) : AHeap := { h with obj := fun j => if j = i then some o else h.obj j }
def AHeap.push (h : AHeap) (o : AObj) : AHeap := { obj := fun j => if j = h.next then some o else h.obj j, next := h.next + 1, base := h.base }
def AHeap.kill (h : AHeap) (i : Nat) : AHeap := { h with obj := fun j => if j = i then none else h.obj j }
def upd (M : Mp) (i : Nat) (b : Blk) : Mp := fun j => if j = i then some b else M j

theorem MapRel.mono {M M' : Mp} (hM : M.le M') {es es' : Array MapEntry} (h : MapRel M es es') : MapRel M' es es' :=
  ⟨h.1, fun j h1 h2 => ⟨(h.2 j h1 h2).1, (h.2 j h1 h2).2.1, (h.2 j h1 h2).2.2.mono hM⟩⟩

theorem ObjRel.mono {M M' : Mp} {b : Blk} {w w' : World} {o : AObj} (hM : M.le M') (e : w'.heap[b.blk]? = w.heap[b.blk]?) (h : ObjRel M b w o) : ObjRel M' b w' o := by
  cases o with
  | row c elem esz tight ro =>
    obtain ⟨cc, lo, hi, h1, h2, h3, h4, h5, h6, h7⟩ := h
    refine ⟨cc, lo, hi, e.trans h1, h2, h3, h4, h5, h6, fun j v hj => ?_⟩
    obtain ⟨vc, hv, hr⟩ := h7 j v hj
    exact ⟨vc, hv, hr.mono hM⟩
  | other o =>
    cases o <;> first
      | exact h.elim
      | (obtain ⟨h0, es', h1, h2⟩ := h; exact ⟨h0, es', e.trans h1, h2.mono hM⟩)
      | (obtain ⟨es', h1, h2⟩ := h; exact ⟨es', e.trans h1, h2.mono hM⟩)
      | exact ⟨h.1, e.trans h.2⟩

theorem upd_le {M : Mp} {i : Nat} {b : Blk} (h : M i = none) : M.le (upd M i b) := fun j c hj => by
  unfold upd; split
  · rename_i e; subst e; rw [h] at hj; cases hj
  · exact hj

/-- A new block. -/
theorem Rel.alloc {M : Mp} {h : AHeap} {w : World} (r : Rel M h w) {o : AObj} {co : Obj} {sz esz : Nat} {op : Bool}
    (hb : ObjRel (upd M h.next ⟨w.heap.size, 0, sz, esz, op⟩) ⟨w.heap.size, 0, sz, esz, op⟩ { w with heap := w.heap.push co } o) :
    Rel (upd M h.next ⟨w.heap.size, 0, sz, esz, op⟩) (h.push o) { w with heap := w.heap.push co } ∧
    Post M h w (upd M h.next ⟨w.heap.size, 0, sz, esz, op⟩) (h.push o) { w with heap := w.heap.push co } := by
  have hn : M h.next = none := r.fresh _ (Nat.le_refl _)
  have hle := upd_le (b := ⟨w.heap.size, 0, sz, esz, op⟩) hn
  have hold : ∀ k, k < w.heap.size → (w.heap.push co)[k]? = w.heap[k]? := fun k hk => by rw [Array.getElem?_push, if_neg (by omega)]
  constructor
  · constructor
    · intro i o' b ho hM
      simp only [AHeap.push] at ho
      by_cases e : i = h.next
      · subst e
        rw [if_pos rfl] at ho
        obtain rfl := Option.some.inj ho
        simp only [upd, if_pos] at hM
        obtain rfl := Option.some.inj hM
        exact hb
      · rw [if_neg e] at ho
        simp only [upd, if_neg e] at hM
        exact (r.live i o' b ho hM).mono hle (hold _ (r.inb i b hM))
    · intro i j b b' hi hj hMi hMj e
      simp only [AHeap.push] at hi hj
      simp only [upd] at hMi hMj
      by_cases ei : i = h.next <;> by_cases ej : j = h.next
      · rw [ei, ej]
      · rw [if_pos ei] at hMi; rw [if_neg ej] at hMj
        obtain rfl := Option.some.inj hMi
        have := r.inb j b' hMj; simp only [] at e; omega
      · rw [if_neg ei] at hMi; rw [if_pos ej] at hMj
        obtain rfl := Option.some.inj hMj
        have := r.inb i b hMi; simp only [] at e; omega
      · rw [if_neg ei] at hMi hi; rw [if_neg ej] at hMj hj
        exact r.inj i j b b' hi hj hMi hMj e
    · intro i hi
      simp only [AHeap.push] at hi
      simp only [upd, if_neg (show ¬ i = h.next by omega)]
      exact r.fresh i (by omega)
    · intro i hi
      obtain ⟨b, h1, h2⟩ := r.glob i hi
      exact ⟨b, hle _ _ h1, h2⟩
    · intro i b hM
      simp only [upd] at hM
      split at hM
      · obtain rfl := Option.some.inj hM; simp
      · have := r.inb i b hM; simp; omega
    · exact Nat.le_trans r.ble (Nat.le_succ _)
    · intro i hi
      simp only [AHeap.push] at hi ⊢
      rw [if_neg (by omega)]
      exact r.bnd i (by omega)
    · intro i o' hi ho'
      have hb : i < h.base := hi
      have hble := r.ble
      simp only [AHeap.push] at ho'
      rw [if_neg (by omega)] at ho'
      exact r.oldro i o' hb ho'
    · intro i b hi hM
      simp only [upd] at hM
      split at hM
      · obtain rfl := Option.some.inj hM; exact r.bsz
      · exact r.nb i b hi hM
  · constructor
    · exact hle
    · intro i hi hm
      simp only [upd, if_neg (show ¬ i = h.next by omega)]; exact hm
    · exact Nat.le_succ _
    · rfl
    · simp
    · rfl
    · rfl
    · rfl
    · exact fun k hk _ => hold k hk
    · exact fun k hk => hold k (Nat.lt_of_lt_of_le hk r.bsz)
    · intro i b hi hM
      simp only [upd] at hM
      simp only [AHeap.push] at hi
      split at hM
      · obtain rfl := Option.some.inj hM; exact .inl (Nat.le_refl _)
      · rename_i e; rw [if_neg e] at hi; exact .inr ⟨i, b, hi, hM, rfl⟩

theorem Rel.cell {M : Mp} {h : AHeap} {w : World} (r : Rel M h w) {i off : Nat} {c : List Value} {e : TypeId} {sz : Nat} {ti ro : Bool} {b : Blk} {v : Value}
    (ho : h.obj i = some (.row c e sz ti ro)) (hM : M i = some b) (hv : c[off]? = some v) : ∃ vc, w.cell? ⟨b.blk, b.base + off, none⟩ = some vc ∧ VRel M v vc := by
  obtain ⟨cc, lo, hi, h1, h2, h3, h4, h5, h6, h7⟩ := r.live i _ b ho hM
  obtain ⟨vc, hvc, hr⟩ := h7 off v hv
  exact ⟨vc, by simp [World.cell?, h1, hvc], hr⟩

theorem Rel.unfrozen {M : Mp} {h : AHeap} {w : World} (r : Rel M h w) {i off : Nat} {c : List Value} {e : TypeId} {sz : Nat} {ti : Bool} {b : Blk}
    (ho : h.obj i = some (.row c e sz ti false)) (hM : M i = some b) (hv : off < c.length) : w.frozen? ⟨b.blk, b.base + off, none⟩ = false := by
  obtain ⟨cc, lo, hi, h1, h2, h3, h4, h5, h6, h7⟩ := r.live i _ b ho hM
  have := h6 rfl
  simp only [World.frozen?, h1]
  simp only [Bool.and_eq_false_imp, decide_eq_true_eq, decide_eq_false_iff_not]
  intro hl hh; omega

/-- A store into a cell. -/
theorem Rel.setCell {M : Mp} {h : AHeap} {w : World} (r : Rel M h w) {i off : Nat} {c : List Value} {e : TypeId} {sz : Nat} {ti : Bool} {b : Blk} {v vc : Value}
    (ho : h.obj i = some (.row c e sz ti false)) (hM : M i = some b) (hoff : off < c.length) (hv : VRel M v vc) :
    Rel M (h.set i (.row (c.set off v) e sz ti false)) (w.setCell ⟨b.blk, b.base + off, none⟩ vc) ∧ Post M h w M (h.set i (.row (c.set off v) e sz ti false)) (w.setCell ⟨b.blk, b.base + off, none⟩ vc) := by
  obtain ⟨cc, lo, hi, h1, h2, h3, h4, h5, h6, h7⟩ := r.live i _ b ho hM
  have hoth : ∀ k, k ≠ b.blk → (w.setCell ⟨b.blk, b.base + off, none⟩ vc).heap[k]? = w.heap[k]? := fun k hk => by
    simp only [World.setCell, Array.getElem?_modify]; rw [if_neg (fun e => hk e.symm)]
  have hhere : (w.setCell ⟨b.blk, b.base + off, none⟩ vc).heap[b.blk]? = some (.cells (cc.setIfInBounds (b.base + off) vc) e (lo, hi)) := by
    simp [World.setCell, Array.getElem?_modify, h1]
  have hsz : (w.setCell ⟨b.blk, b.base + off, none⟩ vc).heap.size = w.heap.size := by simp [World.setCell]
  have hsome : ∀ j, ((h.set i (.row (c.set off v) e sz ti false)).obj j).isSome ↔ (h.obj j).isSome := fun j => by
    simp only [AHeap.set]; split
    · rename_i e; subst e; simp [ho]
    · rfl
  constructor
  · constructor
    · intro j o b' hj hMj
      simp only [AHeap.set] at hj
      by_cases ej : j = i
      · subst ej
        rw [if_pos rfl] at hj
        obtain rfl := Option.some.inj hj
        rw [hM] at hMj; obtain rfl := Option.some.inj hMj
        refine ⟨cc.setIfInBounds (b.base + off) vc, lo, hi, hhere, by simpa using h2, by simpa using h3, h4, h5, fun hr => by simpa using h6 hr, ?_⟩
        intro k u hk
        by_cases ek : k = off
        · subst ek
          rw [List.getElem?_set_self hoff] at hk
          obtain rfl := Option.some.inj hk
          refine ⟨vc, ?_, hv⟩
          rw [Array.getElem?_setIfInBounds_self_of_lt (by omega)]
        · rw [List.getElem?_set_ne (by omega)] at hk
          obtain ⟨u', hu, hr⟩ := h7 k u hk
          exact ⟨u', by rw [Array.getElem?_setIfInBounds_ne (by omega)]; exact hu, hr⟩
      · rw [if_neg ej] at hj
        refine (r.live j o b' hj hMj).mono .rfl (hoth _ ?_)
        intro e'
        exact ej (r.inj j i b' b (by simp [hj]) (by simp [ho]) hMj hM e')
    · exact fun j k b1 b2 hj hk => r.inj j k b1 b2 ((hsome j).1 hj) ((hsome k).1 hk)
    · exact r.fresh
    · exact r.glob
    · exact fun j b1 hj => by rw [hsz]; exact r.inb j b1 hj
    · exact r.ble
    · intro j hj
      have hb := r.bnd j hj
      simp only [AHeap.set]
      rw [if_neg (by rintro rfl; rw [ho] at hb; cases hb)]
      exact hb
    · intro j o hj hjo
      have hi := r.notOld ho
      have hj' : j < h.base := hj
      simp only [AHeap.set] at hjo
      rw [if_neg (by omega)] at hjo
      exact r.oldro j o hj' hjo
    · exact r.nb
  · constructor
    · exact .rfl
    · exact fun _ _ h => h
    · exact Nat.le_refl _
    · rfl
    · rw [hsz]; exact Nat.le_refl _
    · rfl
    · rfl
    · rfl
    · exact fun k hk hu => hoth k (fun e' => hu i b (by simp [ho]) hM e'.symm)
    · exact fun k hk => hoth k (by have := r.nb i b (r.notOld ho) hM; omega)
    · exact fun j b1 hj hMj => .inr ⟨j, b1, (hsome j).1 hj, hMj, rfl⟩

/-! ### Reading -/
def loadR (P : Program) (h : AHeap) (t : TypeId) : Value → Option Value
  | .pointer (some ⟨i, off, none⟩) => match h.obj i with
    | some (.row c _ _ _ _) => match aggB P t with
      | some false => c[off]?
      | some true => (tsz P t).bind fun n => if off + n ≤ c.length then some (.agg ((c.drop off).take n).toArray) else none
      | none => none
    | _ => none
  | _ => none

/-- The cells of a piece of a row. -/
theorem Rel.cells {P : Program} {M : Mp} {h : AHeap} {w : World} (r : Rel M h w) {i off n : Nat} {c : List Value} {e : TypeId} {sz : Nat} {ti ro : Bool} {b : Blk}
    (ho : h.obj i = some (.row c e sz ti ro)) (hM : M i = some b) (hoff : off + n ≤ c.length) :
    ∃ cs : Array Value, (loadCells ⟨b.blk, b.base + off, none⟩ n).run P w = .ok cs w ∧ VRels M ((c.drop off).take n).toArray cs := by
  obtain ⟨cc, lo, hi, h1, h2, h3, h4, h5, h6, h7⟩ := r.live i _ b ho hM
  refine ⟨_, run_loadCells w ⟨b.blk, b.base + off, none⟩ n (fun j => cc.getD (b.base + off + j) undef) ?_, ?_, ?_⟩
  · intro j hj
    rw [add_eq]
    have hlt : b.base + off + j < cc.size := by omega
    simp [World.cell?, h1, Array.getD, hlt]
  · simp; omega
  · intro j hj hj'
    simp only [List.size_toArray, List.length_take, List.length_drop] at hj
    have hj2 : j < n := by omega
    have hjc : off + j < c.length := by omega
    obtain ⟨vc, hv, hr⟩ := h7 (off + j) c[off + j] (List.getElem?_eq_getElem hjc)
    have e1 : ((c.drop off).take n).toArray[j] = c[off + j] := by simp
    rw [e1]
    have hlt : b.base + (off + j) < cc.size := by omega
    simp only [List.getElem_toArray, List.getElem_map, List.getElem_range]
    have e2 : cc.getD (b.base + off + j) undef = vc := by
      rw [Array.getD_eq_getD_getElem?, show b.base + off + j = b.base + (off + j) by omega, hv]; rfl
    rw [e2]; exact hr

theorem loadR_sound {P : Program} {t : TypeId} {M : Mp} {h : AHeap} {w : World} {x x' v : Value} (r : Rel M h w) (hx : VRel M x x') (hl : loadR P h t x = some v) :
    ∃ v', (Instr.loadAt t x').run P w = .ok v' w ∧ VRel M v v' := by
  cases hx <;> simp only [loadR, poison] at hl <;> first | (cases hl; done) | skip
  rename_i i off b hM
  split at hl
  · rename_i c e sz ti ro ho
    split at hl
    · rename_i ha
      obtain ⟨vc, hc, hr⟩ := r.cell ho hM hl
      exact ⟨vc, by simp [Instr.loadAt, Instr.sureAddr, loadVar, run_aggB w ha, hc, Result.andThen], hr⟩
    · rename_i ha
      simp only [Option.bind_eq_some_iff] at hl
      obtain ⟨n, hn, hl⟩ := hl
      split at hl
      · rename_i hoff
        obtain rfl := Option.some.inj hl
        obtain ⟨cs, hcs, hr⟩ := r.cells (P := P) ho hM hoff
        exact ⟨_, by simp [Instr.loadAt, Instr.sureAddr, loadVar, run_aggB w ha, run_tsz w hn, hcs, Result.andThen], hr.agg⟩
      · cases hl
    · cases hl
  · cases hl

/-! ### Writing -/
def setL (c : List Value) (off : Nat) : List Value → List Value
  | [] => c
  | v :: vs => setL (c.set off v) (off + 1) vs

theorem setL_length : ∀ (vs c : List Value) (off : Nat), (setL c off vs).length = c.length
  | [], _, _ => rfl
  | v :: vs, c, off => by simp [setL, setL_length vs]

theorem run_storeCells {P : Program} {M : Mp} {i : Nat} {e : TypeId} {sz : Nat} {ti : Bool} {b : Blk} (hM : M i = some b) :
    ∀ (vs vcs : List Value) (off k : Nat) (c : List Value) (h : AHeap) (w : World), Rel M h w → h.obj i = some (.row c e sz ti false) → off + k + vs.length ≤ c.length →
      VRels M vs.toArray vcs.toArray → (∀ v ∈ vs, v.oneCell' = true) → (∀ v ∈ vs, v ≠ poison) →
      ∃ w', (storeCells ⟨b.blk, b.base + off, none⟩ vcs k).run P w = .ok () w' ∧ Rel M (h.set i (.row (setL c (off + k) vs) e sz ti false)) w' ∧ Post M h w M (h.set i (.row (setL c (off + k) vs) e sz ti false)) w' := by
  intro vs
  induction vs with
  | nil =>
    intro vcs off k c h w r ho hl hr _ _
    obtain rfl : vcs = [] := by have := hr.1; simp at this; exact List.length_eq_zero_iff.1 this.symm
    have e1 : h.set i (.row (setL c (off + k) []) e sz ti false) = h := by
      unfold AHeap.set; cases h; simp only [setL]; congr 1; funext j; split
      · rename_i ej; subst ej; exact ho.symm
      · rfl
    rw [e1]
    exact ⟨w, rfl, r, Post.refl _ _ _⟩
  | cons v vs ih =>
    intro vcs off k c h w r ho hl hr h1 hp
    cases vcs with
    | nil => have := hr.1; simp at this
    | cons vc vcs =>
      have hv : VRel M v vc := hr.2 0 (by simp) (by simp)
      have hr' : VRels M vs.toArray vcs.toArray := by
        refine ⟨by have := hr.1; simpa using this, fun j a b => ?_⟩
        have := hr.2 (j + 1) (by simpa using a) (by simpa using b)
        simpa using this
      have hoff : off + k < c.length := by simp at hl; omega
      obtain ⟨v0, hc0, _⟩ := r.cell ho hM (List.getElem?_eq_getElem hoff)
      have hf := r.unfrozen ho hM hoff
      obtain ⟨r1, p1⟩ := r.setCell ho hM hoff hv
      have hone : vc.oneCell' = true := by
        have := h1 v (by simp); have hq := hp v (by simp)
        cases hv <;> first | rfl | (simp [Value.oneCell'] at this; done) | exact absurd rfl hq
      obtain ⟨w', hw', r2, p2⟩ := ih vcs off (k + 1) (c.set (off + k) v) _ _ r1 (by simp [AHeap.set]) (by simp at hl ⊢; omega) hr' (fun u hu => h1 u (by simp [hu])) (fun u hu => hp u (by simp [hu]))
      have e2 : (h.set i (.row (c.set (off + k) v) e sz ti false)).set i (.row (setL (c.set (off + k) v) (off + (k + 1)) vs) e sz ti false) = h.set i (.row (setL c (off + k) (v :: vs)) e sz ti false) := by
        unfold AHeap.set; simp only [setL]; congr 1; funext j; split <;> rfl
      rw [e2] at r2 p2
      refine ⟨w', ?_, r2, p1.trans p2⟩
      unfold storeCells
      rw [Sem.run_bind, run_store P w _ _ _ hone, add_eq]
      rw [Nat.add_assoc, hc0]
      simp only [hf, Result.andThen, Bool.false_eq_true, if_false]
      exact hw'

/-- A value that is known, and lies in one cell. -/
def okCell (u : Value) : Bool := u.oneCell' && u.known
def storeW (P : Program) (h : AHeap) (t : TypeId) (x v : Value) : Option AHeap :=
  match x with
  | .pointer (some ⟨i, off, none⟩) => match h.obj i with
    | some (.row c e sz ti false) =>
      if tsz P t = some v.cells.size ∧ off + v.cells.size ≤ c.length ∧ v.cells.toList.all okCell = true ∧ v.known = true then
        some (h.set i (.row (setL c off v.cells.toList) e sz ti false))
      else none
    | _ => none
  | _ => none

theorem storeW_sound {P : Program} {t : TypeId} {M : Mp} {h h' : AHeap} {w : World} {x x' v v' : Value} (r : Rel M h w) (hx : VRel M x x') (hv : VRel M v v') (hs : storeW P h t x v = some h') :
    ∃ w', (Instr.storeAt t x' v').run P w = .ok () w' ∧ Rel M h' w' ∧ Post M h w M h' w' := by
  cases hx <;> simp only [storeW, poison] at hs <;> first | (cases hs; done) | skip
  rename_i i off b hM
  split at hs
  · rename_i c e sz ti ho
    split at hs
    · rename_i hcond
      obtain ⟨ht, hl, ha, hq⟩ := hcond
      obtain rfl := Option.some.inj hs
      have hnp : v ≠ poison := by rintro rfl; simp [poison, Value.known] at hq
      have hcells := VRels.cells hv hnp
      rw [List.all_eq_true] at ha
      obtain ⟨w', hw', r', p'⟩ := run_storeCells (P := P) hM v.cells.toList v'.cells.toList off 0 c h w r ho (by simpa using hl) (by simpa using hcells)
        (fun u hu => by have := ha u hu; simp [okCell] at this; exact this.1) (fun u hu => by rintro rfl; have := ha _ hu; simp [okCell, Value.known, poison] at this)
      refine ⟨w', ?_, r', p'⟩
      have hsz : v'.cells.size = v.cells.size := hcells.1.symm
      unfold Instr.storeAt
      simp only [Sem.run_bind, Instr.sureAddr, Sem.run_pure, Result.andThen]
      unfold storeVar
      simp only [Sem.run_bind, run_tsz w ht, Result.andThen, hsz, ne_eq, not_true_eq_false, if_false, Sem.run_pure, Sem.run_ite]
      exact hw'
    · cases hs
  · cases hs
end Ab
