import Derived.Test.YtjjocbijmhmdkaaAbO
namespace Ab
open Go
set_option autoImplicit false
set_option linter.unusedVariables false
set_option linter.unusedSimpArgs false

def onlyL (l : List (Nat × Value)) : List Nat → List (Nat × Value)
  | [] => []
  | t :: ts => match lk l t with
    | some v => (t, v) :: onlyL l ts
    | none => onlyL l ts

def St.only (s : St) (ts : List Nat) : St := ⟨s.n, onlyL s.l ts⟩

theorem only_get (s : St) : ∀ (ts : List Nat) (t : Nat) (v : Value), (s.only ts).get t = some v → t ∈ ts ∧ s.get t = some v
  | [], t, v, h => by cases h
  | u :: ts, t, v, h => by
    have e0 : (s.only (u :: ts)).get t = match lk s.l u with | some x => (if u = t then some x else (s.only ts).get t) | none => (s.only ts).get t := by
      unfold St.only St.get
      simp only [onlyL]
      cases hq : lk s.l u <;> simp only [lk]
    rw [e0] at h
    split at h
    · rename_i x hu
      split at h
      · rename_i e; subst e; obtain rfl := Option.some.inj h; exact ⟨by simp, hu⟩
      · obtain ⟨h1, h2⟩ := only_get s ts t v h
        exact ⟨by simp [h1], h2⟩
    · obtain ⟨h1, h2⟩ := only_get s ts t v h
      exact ⟨by simp [h1], h2⟩

/-- What an operation has come to. -/
inductive Ent
  | skip (s : St)
  | r (s : St) (v : Value)
  | a (s : St) (v : Value) (id : Nat) (ob : AObj)
  | w (v : Value)

def Ent.val : Ent → Value
  | .skip _ => undef
  | .r _ v => v
  | .a _ v _ _ => v
  | .w v => v

/-- What was read, or made, ahead of a writing that it needn't stand ahead of: it is so behind it, too. -/
def still (P : Program) (ops : Array Oper) (h : AHeap) : List (Nat × Ent) → List Nat → Prop
  | [], _ => True
  | (j, e) :: l, rs => (if rs.contains j then
      match e with
      | .r s v => (match ops[j]? with | some o => evalR P h s o.op = some v | none => True)
      | .a _ _ id ob => h.obj id = some ob
      | _ => True
    else True) ∧ still P ops h l rs

def awpD (P : Program) (ops : Array Oper) (Q : St → AHeap → Prop) : List PItem → List (Nat × Ent) → St → AHeap → Prop
  | [], _, s, h => Q s h
  | .n i ts :: l, rc, s, h => match ops[i]? with
    | none => False
    | some o => dstOk s o.dst = true ∧ match guardA ops (s.only ts) o.guard with
      | some false => awpD P ops Q l ((i, .skip (s.only ts)) :: rc) (putO s o.dst undef) h
      | some true => match evalR P h (s.only ts) o.op with
        | some v => awpD P ops Q l ((i, .r (s.only ts) v) :: rc) (putO s o.dst v) h
        | none => match evalA P h.next h.base (s.only ts) o.op with
          | some (v, ob) => awpD P ops Q l ((i, .a (s.only ts) v h.next ob) :: rc) (putO s o.dst v) (h.push ob)
          | none => False
      | none => False
  | .w i ts rs :: l, rc, s, h => match ops[i]? with
    | none => False
    | some o => dstOk s o.dst = true ∧ match guardA ops (s.only ts) o.guard with
      | some false => awpD P ops Q l ((i, .skip (s.only ts)) :: rc) (putO s o.dst undef) h
      | some true => stepA P o (s.only ts) h fun v h' => still P ops h' rc rs ∧ awpD P ops Q l ((i, .w v) :: rc) (putO s o.dst v) h'
      | none => False

theorem still_mem {P : Program} {ops : Array Oper} {h : AHeap} : ∀ {rc : List (Nat × Ent)} {rs : List Nat}, still P ops h rc rs → ∀ {j : Nat} {e : Ent}, (j, e) ∈ rc → rs.contains j = true →
    match e with
    | .r s v => (match ops[j]? with | some o => evalR P h s o.op = some v | none => True)
    | .a _ _ id ob => h.obj id = some ob
    | _ => True
  | [], _, _, _, _, hm, _ => by cases hm
  | (j', e') :: l, rs, hs, j, e, hm, hc => by
    obtain ⟨h1, h2⟩ := hs
    rcases List.mem_cons.1 hm with h | h
    · cases h; rw [if_pos hc] at h1; exact h1
    · exact still_mem h2 h hc

/-- The value of a slot where just the operations of E are done. -/
def slotOf (ops : Array Oper) (rc : List (Nat × Ent)) (E : Nat → Bool) (s0 : St) (t : Nat) : Option Value :=
  match rc.find? (fun p => dstAt ops p.1 == some t && E p.1) with
  | some p => some p.2.val
  | none => s0.get t

/-- Objects that are told of, and don't lie in memory yet. -/
theorem Rel.ghostPush {M : Mp} {h : AHeap} {w : World} (r : Rel M h w) (o : AObj) : Rel M (h.push o) w where
  live := fun i o' b ho hM => by
    simp only [AHeap.push] at ho
    split at ho
    · rename_i e; subst e; rw [r.fresh _ (Nat.le_refl _)] at hM; cases hM
    · exact r.live i o' b ho hM
  inj := fun i j b b' hi hj hMi hMj e => by
    simp only [AHeap.push] at hi hj
    split at hi
    · rename_i e1; subst e1; rw [r.fresh _ (Nat.le_refl _)] at hMi; cases hMi
    · split at hj
      · rename_i e1; subst e1; rw [r.fresh _ (Nat.le_refl _)] at hMj; cases hMj
      · exact r.inj i j b b' hi hj hMi hMj e
  fresh := fun i hi => r.fresh i (by have : h.next + 1 ≤ i := hi; omega)
  glob := r.glob
  inb := r.inb
  ble := Nat.le_trans r.ble (Nat.le_succ _)
  bnd := fun i hi => by
    have hi' : h.next + 1 ≤ i := hi
    simp only [AHeap.push]; rw [if_neg (by omega)]; exact r.bnd i (by omega)
  oldro := fun i o' hi hio => by
    have hi' : i < h.base := hi
    have hble := r.ble
    simp only [AHeap.push] at hio
    rw [if_neg (by omega)] at hio
    exact r.oldro i o' hi' hio
  nb := r.nb

theorem Post.ghostPush {M0 M : Mp} {h0 h : AHeap} {w0 w : World} (p : Post M0 h0 w0 M h w) (r : Rel M h w) (o : AObj) : Post M0 h0 w0 M (h.push o) w :=
  ⟨p.ext, p.ghost, Nat.le_trans p.next (Nat.le_succ _), p.base, p.size, p.os, p.tape, p.output, p.frame, p.old, fun i b hi hM => by
    simp only [AHeap.push] at hi
    split at hi
    · rename_i e; subst e; rw [r.fresh _ (Nat.le_refl _)] at hM; cases hM
    · exact p.grow i b hi hM⟩

/-- Such an object is laid. -/
theorem Rel.ghostAlloc {M : Mp} {h : AHeap} {w w1 : World} (r : Rel M h w) (e1 : w1.heap = w.heap) {id : Nat} {o : AObj} {co : Obj} {sz esz : Nat} {op : Bool} (hid : id < h.next) (hM : M id = none) (ho : h.obj id = some o)
    (hb : ObjRel (upd M id ⟨w.heap.size, 0, sz, esz, op⟩) ⟨w.heap.size, 0, sz, esz, op⟩ ({ w1 with heap := w.heap.push co } : World) o) :
    Rel (upd M id ⟨w.heap.size, 0, sz, esz, op⟩) h ({ w1 with heap := w.heap.push co } : World) := by
  have hle := upd_le (b := ⟨w.heap.size, 0, sz, esz, op⟩) hM
  have hold : ∀ k, k < w.heap.size → (w.heap.push co)[k]? = w.heap[k]? := fun k hk => by rw [Array.getElem?_push, if_neg (by omega)]
  constructor
  · intro i o' b hi hMi
    by_cases e : i = id
    · subst e
      rw [ho] at hi; obtain rfl := Option.some.inj hi
      rw [upd_self] at hMi; obtain rfl := Option.some.inj hMi
      exact hb
    · simp only [upd, if_neg e] at hMi
      exact (r.live i o' b hi hMi).mono hle (hold _ (r.inb i b hMi))
  · intro i j b b' hi hj hMi hMj e
    simp only [upd] at hMi hMj
    by_cases ei : i = id <;> by_cases ej : j = id
    · rw [ei, ej]
    · rw [if_pos ei] at hMi; rw [if_neg ej] at hMj
      obtain rfl := Option.some.inj hMi
      have := r.inb j b' hMj; simp only [] at e; omega
    · rw [if_neg ei] at hMi; rw [if_pos ej] at hMj
      obtain rfl := Option.some.inj hMj
      have := r.inb i b hMi; simp only [] at e; omega
    · rw [if_neg ei] at hMi; rw [if_neg ej] at hMj
      exact r.inj i j b b' hi hj hMi hMj e
  · intro i hi
    simp only [upd, if_neg (show ¬ i = id by omega)]
    exact r.fresh i hi
  · intro i hi
    obtain ⟨b, h1, h2⟩ := r.glob i hi
    exact ⟨b, hle _ _ h1, h2⟩
  · intro i b hMi
    simp only [upd] at hMi
    split at hMi
    · obtain rfl := Option.some.inj hMi; simp
    · have := r.inb i b hMi; simp; omega
  · exact r.ble
  · exact r.bnd
  · exact r.oldro
  · intro i b hi hMi
    simp only [upd] at hMi
    split at hMi
    · obtain rfl := Option.some.inj hMi; exact r.bsz
    · exact r.nb i b hi hMi

theorem Post.ghostAlloc {M0 M : Mp} {h0 h : AHeap} {w0 w w1 : World} (p : Post M0 h0 w0 M h w) {id : Nat} {co : Obj} {sz esz : Nat} {op : Bool} (e1 : w1.os = w.os) (e2 : w1.tape = w.tape) (e3 : w1.output = w.output)
    (hid : h0.next ≤ id) (hM : M id = none) (hb0 : h0.base ≤ w0.heap.size) : Post M0 h0 w0 (upd M id ⟨w.heap.size, 0, sz, esz, op⟩) h ({ w1 with heap := w.heap.push co } : World) where
  ext := p.ext.trans (upd_le hM)
  ghost := fun i hi hn => by simp only [upd, if_neg (show ¬ i = id by omega)]; exact p.ghost i hi hn
  next := p.next
  base := p.base
  size := by have := p.size; simp; omega
  os := e1.trans p.os
  tape := e2.trans p.tape
  output := e3.trans p.output
  frame := fun k hk hu => by
    have := p.size
    show (w.heap.push co)[k]? = _
    rw [Array.getElem?_push, if_neg (by omega)]
    exact p.frame k hk hu
  old := fun k hk => by
    have := p.size
    show (w.heap.push co)[k]? = _
    rw [Array.getElem?_push, if_neg (by omega)]
    exact p.old k hk
  grow := fun i b hi hMi => by
    simp only [upd] at hMi
    split at hMi
    · obtain rfl := Option.some.inj hMi; exact .inl p.size
    · exact p.grow i b hi hMi
end Ab
