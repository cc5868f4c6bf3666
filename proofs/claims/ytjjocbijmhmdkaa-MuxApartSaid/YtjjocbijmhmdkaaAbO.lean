import Derived.Test.YtjjocbijmhmdkaaAbN
import Derived.Orders
namespace Ab
open Go
set_option autoImplicit false
set_option linter.unusedVariables false
set_option linter.unusedSimpArgs false

/-! ### Readings stay, where no object goes -/
def AHeap.le (h h' : AHeap) : Prop := h'.base = h.base ∧ ∀ i o, h.obj i = some o → h'.obj i = some o

theorem loadR_mono {P : Program} {h h' : AHeap} (k : h.le h') {t : TypeId} {x v : Value} (e : loadR P h t x = some v) : loadR P h' t x = some v := by
  unfold loadR at e ⊢
  split at e
  · rename_i i off
    split at e
    · rename_i c a b d f ho
      rw [k.2 _ _ ho]; exact e
    · cases e
  · cases e

theorem strR_mono {P : Program} {h h' : AHeap} (k : h.le h') {s d : TypeId} {x v : Value} (e : strR P h s d x = some v) : strR P h' s d x = some v := by
  unfold strR at e ⊢
  split at e
  · exact e
  · rename_i i off len cap
    split at e
    · split at e
      · split at e
        · rename_i ho
          rw [k.2 _ _ ho]; exact e
        · cases e
      · cases e
    · cases e
  · cases e

theorem convS_mono {P : Program} {h h' : AHeap} (k : h.le h') {s d : TypeId} {x v : Value} (e : convS P h s d x = some v) : convS P h' s d x = some v := by
  unfold convS at e ⊢
  split at e
  · split at e
    · split at e
      · rename_i he ho
        rw [k.2 _ _ ho, he, k.1]; exact e
      · cases e
    · cases e
  · cases e

theorem strR_none {P : Program} {h : AHeap} {s d : TypeId} {x v : Value} (e : convS P h s d x = some v) : ∀ h', strR P h' s d x = none := by
  intro h'
  unfold convS at e
  split at e
  · split at e
    · rename_i e1 hd
      split at e
      · split at e
        · rename_i hc
          obtain ⟨rfl, _⟩ := hc
          simp only [strR, hd]
        · cases e
      · cases e
    · cases e
  · cases e

theorem convR_mono {P : Program} {h h' : AHeap} (k : h.le h') {s d : TypeId} {x v : Value} (e : convR P h s d x = some v) : convR P h' s d x = some v := by
  unfold convR at e ⊢
  split at e
  · exact e
  · exact e
  · split at e
    · rename_i hu
      rw [strR_mono k hu]; exact e
    · rw [strR_none e h']; exact convS_mono k e
  · cases e

theorem sliceR_mono {P : Program} {h h' : AHeap} (k : h.le h') {t : TypeId} {x v : Value} {lo hi mx : Option Value} (e : sliceR P h t x lo hi mx = some v) : sliceR P h' t x lo hi mx = some v := by
  unfold sliceR at e ⊢
  split at e
  · exact e
  · exact e
  · split at e
    · split at e
      · rename_i hsz ho
        rw [k.2 _ _ ho, hsz]; exact e
      · cases e
    · cases e
  · exact e
  · cases e

theorem lenE_mono {P : Program} {h h' : AHeap} (k : h.le h') {t : TypeId} {x v : Value} (e : lenE P h t x = some v) : lenE P h' t x = some v := by
  unfold lenE at e ⊢
  split at e
  · exact e
  · exact e
  · exact e
  · exact e
  · split at e
    · exact e
    · split at e
      · rename_i ho
        rw [k.2 _ _ ho]; exact e
      · cases e
    · cases e
  · cases e

theorem builtinR_mono {P : Program} {h h' : AHeap} (k : h.le h') {b : Builtin} {ts : Array TypeId} {vs : List Value} {v : Value} (e : builtinR P h b ts vs = some v) : builtinR P h' b ts vs = some v := by
  unfold builtinR at e ⊢
  split at e
  · simp only [Option.bind_eq_some_iff] at e ⊢
    obtain ⟨t, ht, e⟩ := e
    exact ⟨t, ht, lenE_mono k e⟩
  · exact e
  · exact e
  · cases e

theorem mapE_mono {h h' : AHeap} (k : h.le h') {m : Value} {es : List MapEntry} (e : mapE h m = some es) : mapE h' m = some es := by
  unfold mapE at e ⊢
  split at e
  · exact e
  · split at e
    · rename_i ho
      rw [k.2 _ _ ho]; exact e
    · cases e
  · cases e
theorem lookupR_mono {P : Program} {h h' : AHeap} (k : h.le h') {t : TypeId} {m x v : Value} {ok : Bool} (e : lookupR P h t m x ok = some v) : lookupR P h' t m x ok = some v := by
  unfold lookupR at e ⊢
  split at e
  · simp only [Option.bind_eq_some_iff] at e ⊢
    obtain ⟨z, hz, es, hes, e⟩ := e
    exact ⟨z, hz, es, mapE_mono k hes, e⟩
  · cases e
theorem entryR_mono {h h' : AHeap} (k : h.le h') {x v : Value} (e : entryR h x = some v) : entryR h' x = some v := by
  unfold entryR at e ⊢
  split at e
  · split at e
    · rename_i ho
      rw [k.2 _ _ ho]
      simp only []
      split at e
      · rename_i hst hm
        rw [hst, k.2 _ _ hm]; exact e
      · cases e
    · cases e
  · cases e

theorem evalR_mono {P : Program} {h h' : AHeap} (k : h.le h') {s : St} {o : Op} {v : Value} (e : evalR P h s o = some v) : evalR P h' s o = some v := by
  unfold evalR at e ⊢
  rw [k.1]
  split at e
  all_goals first
    | exact e
    | (simp only [Option.bind_eq_some_iff] at e ⊢
       obtain ⟨p, hp, e⟩ := e
       first
       | exact ⟨p, hp, convR_mono k e⟩
       | exact ⟨p, hp, loadR_mono k e⟩
       | exact ⟨p, hp, entryR_mono k e⟩
       | exact ⟨p, hp, builtinR_mono k e⟩)
    | (simp only [Option.bind_eq_some_iff] at e ⊢
       obtain ⟨p, hp, q1, hq1, e⟩ := e
       exact ⟨p, hp, q1, hq1, lookupR_mono k e⟩)
    | (simp only [Option.bind_eq_some_iff] at e ⊢
       obtain ⟨p, hp, q1, hq1, q2, hq2, q3, hq3, e⟩ := e
       exact ⟨p, hp, q1, hq1, q2, hq2, q3, hq3, sliceR_mono k e⟩)

/-- What doesn't hang on the heap. -/
def pureOp : Op → Bool
  | .move _ | .assign _ | .pick _ _ _ | .binOp _ _ _ _ _ | .unOp _ _ _ | .field _ _ _ | .extract _ _ | .index _ _ _ | .nilCheck _ | .fieldAddr _ _ _ | .indexAddr _ _ _ | .build _ _ | .makeInterface _ _ | .makeFunc _ _ _ => true
  | _ => false

theorem evalR_pure {P : Program} {h h' : AHeap} (hb : h'.base = h.base) {s : St} {o : Op} (hp : pureOp o = true) : evalR P h' s o = evalR P h s o := by
  unfold pureOp at hp
  split at hp <;> first | (cases hp; done) | (simp only [evalR, hb])

theorem evalA_base {P : Program} {id b b' : Nat} (hb : b' = b) (s : St) (o : Op) : evalA P id b' s o = evalA P id b s o := by rw [hb]

/-! ### A region whose order is drawn: what hangs on what -/
def edgesOf (o : Oper) : List Nat := o.after.toList.filterMap fun e => if Region.binds .any e then some e.on else none

/-- Operation k must stand ahead of i. -/
inductive Anc (ops : Array Oper) : Nat → Nat → Prop
  | edge (i j : Nat) (o : Oper) : ops[i]? = some o → j ∈ edgesOf o → Anc ops j i
  | step (i j k : Nat) (o : Oper) : Anc ops k j → ops[i]? = some o → j ∈ edgesOf o → Anc ops k i

theorem Anc.trans {ops : Array Oper} {a b c : Nat} (h : Anc ops a b) (k : Anc ops b c) : Anc ops a c := by
  induction k with
  | edge i j o ho hj => exact .step i j a o h ho hj
  | step i j k o _ ho hj ih => exact .step i j a o (ih h) ho hj

def anc1 (acc : List Nat) (o : Oper) : Nat := (edgesOf o).foldl (fun b j => b ||| 2 ^ j ||| acc.getD j 0) 0
def ancs (l : List Oper) : List Nat := l.foldl (fun acc o => acc ++ [anc1 acc o]) []
def an (bits : List Nat) (j i : Nat) : Bool := (bits.getD i 0).testBit j

theorem foldl_bits (acc : List Nat) (j : Nat) : ∀ (es : List Nat) (b : Nat), (es.foldl (fun b e => b ||| 2 ^ e ||| acc.getD e 0) b).testBit j = true → b.testBit j = true ∨ j ∈ es ∨ ∃ e ∈ es, (acc.getD e 0).testBit j = true
  | [], b, h => .inl h
  | e :: es, b, h => by
    rw [List.foldl_cons] at h
    rcases foldl_bits acc j es _ h with h1 | h1 | ⟨e', h1, h2⟩
    · rw [Nat.testBit_or, Nat.testBit_or, Bool.or_eq_true, Bool.or_eq_true, Nat.testBit_two_pow, decide_eq_true_eq] at h1
      rcases h1 with (h1 | h1) | h1
      · exact .inl h1
      · exact .inr (.inl (by simp [h1]))
      · exact .inr (.inr ⟨e, by simp, h1⟩)
    · exact .inr (.inl (by simp [h1]))
    · exact .inr (.inr ⟨e', by simp [h1], h2⟩)

theorem ancs_sound {ops : Array Oper} : ∀ {i j : Nat}, an (ancs ops.toList) j i = true → Anc ops j i := by
  have key : ∀ (l pre : List Oper) (acc : List Nat), pre ++ l = ops.toList → acc.length = pre.length → (∀ i j, an acc j i = true → Anc ops j i) → ∀ i j, an (l.foldl (fun acc o => acc ++ [anc1 acc o]) acc) j i = true → Anc ops j i := by
    intro l
    induction l with
    | nil => intro pre acc _ _ h; exact h
    | cons o l ih =>
      intro pre acc hp hl h
      rw [List.foldl_cons]
      refine ih (pre ++ [o]) _ (by simp [hp]) (by simp [hl]) ?_
      intro i j hij
      unfold an at hij
      by_cases hi : i < acc.length
      · rw [List.getD_eq_getElem?_getD, List.getElem?_append_left hi, ← List.getD_eq_getElem?_getD] at hij
        exact h i j hij
      · by_cases hi2 : i = acc.length
        · subst hi2
          rw [List.getD_eq_getElem?_getD, List.getElem?_append_right (Nat.le_refl _)] at hij
          simp only [Nat.sub_self, List.getElem?_cons_zero, Option.getD_some] at hij
          have ho : ops[acc.length]? = some o := by
            rw [← Array.getElem?_toList, ← hp, hl, List.getElem?_append_right (Nat.le_refl _)]; simp
          rcases foldl_bits acc j _ _ hij with h1 | h1 | ⟨e, h1, h2⟩
          · simp at h1
          · exact .edge _ _ o ho h1
          · exact .step _ e j o (h e j h2) ho h1
        · rw [List.getD_eq_getElem?_getD, List.getElem?_eq_none (by simp; omega)] at hij
          simp at hij
  intro i j hij
  exact key ops.toList [] [] rfl rfl (fun i j h => by simp [an] at h) i j hij

/-! ### The plan of such a region -/
inductive PItem
  | n (i : Nat) (ts : List Nat)
  | w (i : Nat) (ts rs : List Nat)

def PItem.idx : PItem → Nat
  | .n i _ => i
  | .w i _ _ => i
def PItem.ts : PItem → List Nat
  | .n _ ts => ts
  | .w _ ts _ => ts

def dstAt (ops : Array Oper) (i : Nat) : Option Nat := (ops[i]?).bind (·.dst)
def edgesAt (ops : Array Oper) (i : Nat) : List Nat := match ops[i]? with | some o => edgesOf o | none => []
def pureAt (ops : Array Oper) (i : Nat) : Bool := match ops[i]? with | some o => pureOp o.op | none => true

def planGo (ops : Array Oper) (bits : List Nat) : List Nat → Option Nat → List PItem → Bool
  | _, _, [] => true
  | seen, lastW, .n i ts :: l =>
    (edgesAt ops i).all (seen.contains ·) && !seen.contains i && decide (i < ops.size) && (match lastW with | none => true | some k => an bits k i) && planGo ops bits (i :: seen) lastW l
  | seen, lastW, .w i ts rs :: l =>
    (edgesAt ops i).all (seen.contains ·) && !seen.contains i && decide (i < ops.size) && (match lastW with | none => true | some k => an bits k i) &&
    seen.all (fun j => an bits j i || rs.contains j || pureAt ops j) && planGo ops bits (i :: seen) (some i) l

/-- Each slot has one writer; who reads it stands in order to its writer. -/
def slotsOk (ops : Array Oper) (bits : List Nat) (items : List PItem) : Bool :=
  items.all fun a => items.all fun b => a.idx == b.idx ||
    (match dstAt ops b.idx with
     | some d => dstAt ops a.idx != some d && (!a.ts.contains d || an bits b.idx a.idx || an bits a.idx b.idx)
     | none => true)

def planOk (ops : Array Oper) (items : List PItem) : Bool :=
  let bits := ancs ops.toList
  planGo ops bits [] none items && decide (items.length = ops.size) && (List.range ops.size).all (fun i => (items.map PItem.idx).contains i && (edgesAt ops i).all (· < i)) && slotsOk ops bits items
end Ab
