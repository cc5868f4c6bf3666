import Derived.Calls
namespace Ab
open Go
set_option autoImplicit false
set_option linter.unusedVariables false

/-- Where an object of the abstract heap lies: its block, from which cell on, how many cells to the block's end, how many cells an element of its row has; may there be more cells than are told of? -/
structure Blk where
  blk : Nat
  base : Nat
  size : Nat
  esz : Nat
  opn : Bool

abbrev Mp := Nat → Option Blk

/-- A value that stands for a value of which nothing is known. -/
def poison : Value := .complex .f32 1 1

inductive VRel (M : Mp) : Value → Value → Prop
  | any (v : Value) : VRel M poison v
  | bool (b : Bool) : VRel M (.bool b) (.bool b)
  | int (k : IntKind) (n : Int) : VRel M (.int k n) (.int k n)
  | string (s : ByteArray) : VRel M (.string s) (.string s)
  | nilPtr : VRel M (.pointer none) (.pointer none)
  | ptr (i off : Nat) (b : Blk) : M i = some b → VRel M (.pointer (some ⟨i, off, none⟩)) (.pointer (some ⟨b.blk, b.base + off, none⟩))
  | nilSlice : VRel M (.slice none 0 0) (.slice none 0 0)
  | slice (i off len cap cap' : Nat) (b : Blk) : M i = some b → len ≤ cap → (cap' = cap ∨ (b.opn = true ∧ cap ≤ cap' ∧ off + cap' * b.esz ≤ b.size)) →
      VRel M (.slice (some ⟨i, off, none⟩) len cap) (.slice (some ⟨b.blk, b.base + off, none⟩) len cap')
  | slice0 (i off off' cap' : Nat) (b : Blk) : M i = some b → (cap' = 0 ∨ (b.opn = true ∧ off' + cap' * b.esz ≤ b.size)) →
      VRel M (.slice (some ⟨i, off, none⟩) 0 0) (.slice (some ⟨b.blk, b.base + off', none⟩) 0 cap')
  | slice00 (i off : Nat) (a : Addr) (b : Blk) : M i = some b → VRel M (.slice (some ⟨i, off, none⟩) 0 0) (.slice (some a) 0 0)
  | nilMap : VRel M (.map none) (.map none)
  | map (i : Nat) (b : Blk) : M i = some b → VRel M (.map (some i)) (.map (some b.blk))
  | nilFunc : VRel M .nilFunc .nilFunc
  | func (fn : Fn) (f f' c c' : Array Value) : f.size = f'.size → (∀ j (h : j < f.size) (h' : j < f'.size), VRel M f[j] f'[j]) →
      c.size = c'.size → (∀ j (h : j < c.size) (h' : j < c'.size), VRel M c[j] c'[j]) → VRel M (.func fn f c) (.func fn f' c')
  | nilIface : VRel M .nilIface .nilIface
  | iface (t : TypeId) (v v' : Value) : VRel M v v' → VRel M (.iface t v) (.iface t v')
  | agg (c c' : Array Value) : c.size = c'.size → (∀ j (h : j < c.size) (h' : j < c'.size), VRel M c[j] c'[j]) → VRel M (.agg c) (.agg c')
  | tuple (c c' : Array Value) : c.size = c'.size → (∀ j (h : j < c.size) (h' : j < c'.size), VRel M c[j] c'[j]) → VRel M (.tuple c) (.tuple c')

/-- Two arrays of values, one by one. -/
def VRels (M : Mp) (c c' : Array Value) : Prop := c.size = c'.size ∧ ∀ j (h : j < c.size) (h' : j < c'.size), VRel M c[j] c'[j]

theorem VRels.agg {M : Mp} {c c' : Array Value} (h : VRels M c c') : VRel M (.agg c) (.agg c') := .agg _ _ h.1 h.2
theorem VRels.tuple {M : Mp} {c c' : Array Value} (h : VRels M c c') : VRel M (.tuple c) (.tuple c') := .tuple _ _ h.1 h.2

def Mp.le (M M' : Mp) : Prop := ∀ i b, M i = some b → M' i = some b
theorem Mp.le.rfl {M : Mp} : M.le M := fun _ _ h => h
theorem Mp.le.trans {M M' M'' : Mp} (h : M.le M') (h' : M'.le M'') : M.le M'' := fun i b k => h' i b (h i b k)

theorem VRel.mono {M M' : Mp} (hM : M.le M') {v v' : Value} (h : VRel M v v') : VRel M' v v' := by
  induction h with
  | any v => exact .any v
  | bool b => exact .bool b
  | int k n => exact .int k n
  | string s => exact .string s
  | nilPtr => exact .nilPtr
  | ptr i off b h => exact .ptr i off b (hM _ _ h)
  | nilSlice => exact .nilSlice
  | slice i off len cap cap' b h h1 h2 => exact .slice i off len cap cap' b (hM _ _ h) h1 h2
  | slice0 i off off' cap' b h h1 => exact .slice0 i off off' cap' b (hM _ _ h) h1
  | slice00 i off a b h => exact .slice00 i off a b (hM _ _ h)
  | nilMap => exact .nilMap
  | map i b h => exact .map i b (hM _ _ h)
  | nilFunc => exact .nilFunc
  | func fn f f' c c' h1 _ h3 _ ih1 ih2 => exact .func fn f f' c c' h1 ih1 h3 ih2
  | nilIface => exact .nilIface
  | iface t v v' _ ih => exact .iface t v v' ih
  | agg c c' h1 _ ih => exact .agg c c' h1 ih
  | tuple c c' h1 _ ih => exact .tuple c c' h1 ih

theorem VRels.mono {M M' : Mp} (hM : M.le M') {c c' : Array Value} (h : VRels M c c') : VRels M' c c' := ⟨h.1, fun j a b => (h.2 j a b).mono hM⟩

/-- An object of the abstract heap. -/
inductive AObj where
  | row (c : List Value) (elem : TypeId) (esz : Nat) (tight ro : Bool)
  | other (o : Obj)

structure AHeap where
  obj : Nat → Option AObj
  next : Nat
  base : Nat

def RowRel (M : Mp) (b : Blk) (w : World) (c : List Value) (elem : TypeId) (esz : Nat) (tight ro : Bool) : Prop :=
  ∃ cc lo hi, w.heap[b.blk]? = some (.cells cc elem (lo, hi)) ∧ cc.size = b.base + b.size ∧ c.length ≤ b.size ∧ b.esz = esz ∧ (tight = true → b.opn = false) ∧
    (ro = false → lo = hi ∨ cc.size ≤ lo) ∧ ∀ j v, c[j]? = some v → ∃ vc, cc[b.base + j]? = some vc ∧ VRel M v vc

def MapRel (M : Mp) (es es' : Array MapEntry) : Prop :=
  es.size = es'.size ∧ ∀ j (h : j < es.size) (h' : j < es'.size), es[j].key = es'[j].key ∧ es[j].born = es'[j].born ∧ VRel M es[j].val es'[j].val

def ObjRel (M : Mp) (b : Blk) (w : World) : AObj → Prop
  | .row c elem esz tight ro => RowRel M b w c elem esz tight ro
  | .other (.map es clock) => ∃ es', w.heap[b.blk]? = some (.map es' clock) ∧ MapRel M es es'
  | .other (.mapIter m since seen stepped) => b.base = 0 ∧ ∃ m', w.heap[b.blk]? = some (.mapIter m' since seen stepped) ∧ VRel M (.map m) (.map m')
  | .other (.stringIter s pos) => b.base = 0 ∧ w.heap[b.blk]? = some (.stringIter s pos)
  | .other _ => False

structure Rel (M : Mp) (h : AHeap) (w : World) : Prop where
  live : ∀ i o b, h.obj i = some o → M i = some b → ObjRel M b w o
  inj : ∀ i j b b', (h.obj i).isSome → (h.obj j).isSome → M i = some b → M j = some b' → b.blk = b'.blk → i = j
  fresh : ∀ i, h.next ≤ i → M i = none
  glob : ∀ i, i < h.base → ∃ b, M i = some b ∧ b.blk = i ∧ b.base = 0
  inb : ∀ i b, M i = some b → b.blk < w.heap.size
  ble : h.base ≤ h.next
  bnd : ∀ i, h.next ≤ i → h.obj i = none
  oldro : ∀ i o, i < h.base → h.obj i = some o → ∃ c e sz ti, o = .row c e sz ti true
  nb : ∀ i b, h.base ≤ i → M i = some b → h.base ≤ b.blk

theorem Rel.bsz {M : Mp} {h : AHeap} {w : World} (r : Rel M h w) : h.base ≤ w.heap.size := by
  rcases Nat.eq_zero_or_pos h.base with h0 | h0
  · omega
  · obtain ⟨b, h1, h2, _⟩ := r.glob (h.base - 1) (by omega)
    have := r.inb _ b h1
    omega

theorem Rel.notOld {M : Mp} {h : AHeap} {w : World} (r : Rel M h w) {i : Nat} {c : List Value} {e : TypeId} {sz : Nat} {ti : Bool} (ho : h.obj i = some (.row c e sz ti false)) : h.base ≤ i := by
  rcases Nat.lt_or_ge i h.base with hi | hi
  · obtain ⟨c', e', sz', ti', he⟩ := r.oldro i _ hi ho
    cases he
  · exact hi

structure Post (M : Mp) (h : AHeap) (w : World) (M' : Mp) (h' : AHeap) (w' : World) : Prop where
  ext : M.le M'
  ghost : ∀ i, i < h.next → M i = none → M' i = none
  next : h.next ≤ h'.next
  base : h'.base = h.base
  size : w.heap.size ≤ w'.heap.size
  os : w'.os = w.os
  tape : w'.tape = w.tape
  output : w'.output = w.output
  frame : ∀ k, k < w.heap.size → (∀ i b, (h.obj i).isSome → M i = some b → b.blk ≠ k) → w'.heap[k]? = w.heap[k]?
  old : ∀ k, k < h.base → w'.heap[k]? = w.heap[k]?
  grow : ∀ i b, (h'.obj i).isSome → M' i = some b → w.heap.size ≤ b.blk ∨ ∃ j b2, (h.obj j).isSome ∧ M j = some b2 ∧ b2.blk = b.blk

theorem Post.refl (M : Mp) (h : AHeap) (w : World) : Post M h w M h w where
  ext := .rfl
  ghost := fun _ _ h => h
  next := Nat.le_refl _
  base := rfl
  size := Nat.le_refl _
  os := rfl
  tape := rfl
  output := rfl
  frame := fun _ _ _ => rfl
  old := fun _ _ => rfl
  grow := fun i b hi hM => .inr ⟨i, b, hi, hM, rfl⟩

theorem Post.trans {M M' M'' : Mp} {h h' h'' : AHeap} {w w' w'' : World} (a : Post M h w M' h' w') (b : Post M' h' w' M'' h'' w'') : Post M h w M'' h'' w'' where
  ext := a.ext.trans b.ext
  ghost := fun i hi hn => b.ghost i (Nat.lt_of_lt_of_le hi a.next) (a.ghost i hi hn)
  next := Nat.le_trans a.next b.next
  base := b.base.trans a.base
  size := Nat.le_trans a.size b.size
  os := b.os.trans a.os
  tape := b.tape.trans a.tape
  output := b.output.trans a.output
  frame := fun k hk hu => by
    rw [b.frame k (Nat.lt_of_lt_of_le hk a.size) ?_, a.frame k hk hu]
    intro i bb hi hM e
    rcases a.grow i bb hi hM with h1 | ⟨j, b2, hj, hj2, e2⟩
    · omega
    · exact hu j b2 hj hj2 (e2.trans e)
  old := fun k hk => (b.old k (by rw [a.base]; exact hk)).trans (a.old k hk)
  grow := fun i bb hi hM => by
    rcases b.grow i bb hi hM with h1 | ⟨j, b2, hj, hj2, e2⟩
    · exact .inl (Nat.le_trans a.size h1)
    · rcases a.grow j b2 hj hj2 with h1 | ⟨j', b3, hj', hj3, e3⟩
      · exact .inl (e2 ▸ h1)
      · exact .inr ⟨j', b3, hj', hj3, e3.trans e2⟩

/-- A draw turns no block. -/
theorem Rel.world {M : Mp} {h : AHeap} {w w' : World} (r : Rel M h w) (e : w'.heap = w.heap) : Rel M h w' where
  live := fun i o b ho hM => by
    have := r.live i o b ho hM
    cases o with
    | row c elem esz tight ro => unfold ObjRel RowRel at *; rw [e]; exact this
    | other o => cases o <;> first | exact this.elim | (unfold ObjRel at *; rw [e]; exact this)
  inj := r.inj
  fresh := r.fresh
  glob := r.glob
  inb := fun i b hM => by rw [e]; exact r.inb i b hM
  ble := r.ble
  bnd := r.bnd
  oldro := r.oldro
  nb := r.nb

theorem Post.world {M : Mp} {h : AHeap} {w w' : World} (e : w'.heap = w.heap) (e1 : w'.os = w.os) (e2 : w'.tape = w.tape) (e3 : w'.output = w.output) : Post M h w M h w' where
  ext := .rfl
  ghost := fun _ _ h => h
  next := Nat.le_refl _
  base := rfl
  size := by rw [e]; exact Nat.le_refl _
  os := e1
  tape := e2
  output := e3
  frame := fun _ _ _ => by rw [e]
  old := fun _ _ => by rw [e]
  grow := fun i b hi hM => .inr ⟨i, b, hi, hM, rfl⟩

/-! ### Slots -/
structure St where
  n : Nat
  l : List (Nat × Value)

def lk : List (Nat × Value) → Nat → Option Value
  | [], _ => none
  | (k, v) :: l, t => if k = t then some v else lk l t

def St.get (s : St) (t : Nat) : Option Value := lk s.l t
def St.put (s : St) (t : Nat) (v : Value) : St := { s with l := (t, v) :: s.l }

structure SRel (M : Mp) (s : St) (a : Act) : Prop where
  defers : a.defers = []
  size : a.tmps.size = s.n
  get : ∀ t v, s.get t = some v → VRel M v (a.tmps.getD t undef)

theorem SRel.mono {M M' : Mp} {s : St} {a : Act} (hM : M.le M') (h : SRel M s a) : SRel M' s a := ⟨h.defers, h.size, fun t v k => (h.get t v k).mono hM⟩

theorem SRel.put {M : Mp} {s : St} {a : Act} (h : SRel M s a) {d : Nat} (hd : d < s.n) {v vc : Value} (hv : VRel M v vc) : SRel M (s.put d v) (a.put (some d) vc) where
  defers := h.defers
  size := by simp [Act.put, St.put, h.size]
  get := fun t u hu => by
    have hs := h.size
    simp only [St.get, St.put, lk] at hu
    by_cases e : d = t
    · subst e
      rw [if_pos rfl] at hu
      obtain rfl := Option.some.inj hu
      have : d < a.tmps.size := by omega
      simpa [Act.put, Array.getD, this] using hv
    · rw [if_neg e] at hu
      have := h.get t u hu
      have e2 : (a.put (some d) vc).tmps.getD t undef = a.tmps.getD t undef := by
        show (a.tmps.setIfInBounds d vc).getD t undef = _
        rw [Array.getD_eq_getD_getElem?, Array.getD_eq_getD_getElem?, Array.getElem?_setIfInBounds_ne e]
      rw [e2]; exact this

/-- What is known of fewer slots. -/
theorem SRel.weaken {M : Mp} {s s' : St} {a : Act} (h : SRel M s a) (hn : s'.n = s.n) (hg : ∀ t v, s'.get t = some v → s.get t = some v) : SRel M s' a :=
  ⟨h.defers, h.size.trans hn.symm, fun t v k => h.get t v (hg t v k)⟩

/-! ### The two readings: of code, and of calls -/
def Lift (Q : Exit → St → AHeap → Prop) (M : Mp) (h : AHeap) (w : World) : Exit → Act → World → Prop :=
  fun e a' w' => ∃ M' s' h', Q e s' h' ∧ SRel M' s' a' ∧ Rel M' h' w' ∧ Post M h w M' h' w'

def AWP (P : Program) (c : Code) (Q : Exit → St → AHeap → Prop) (s : St) (h : AHeap) : Prop :=
  ∀ M a w, SRel M s a → Rel M h w → c.wp P (Lift Q M h w) a w

def ACalls (P : Program) (f : FuncId) (args : Array Value) (h : AHeap) (Q : Value → AHeap → Prop) : Prop :=
  ∀ M w cargs, Rel M h w → VRels M args cargs → Calls P f cargs w fun e w' =>
    ∃ v vc M' h', e = .returned vc ∧ Q v h' ∧ VRel M' v vc ∧ Rel M' h' w' ∧ Post M h w M' h' w'

theorem ACalls.mono {P : Program} {f : FuncId} {args : Array Value} {h : AHeap} {Q Q' : Value → AHeap → Prop} (k : ACalls P f args h Q) (hq : ∀ v h', Q v h' → Q' v h') : ACalls P f args h Q' :=
  fun M w cargs r va => (k M w cargs r va).mono fun _ _ ⟨v, vc, M', h', e, q, rest⟩ => ⟨v, vc, M', h', e, hq _ _ q, rest⟩

section
variable {P : Program} {Q Q' : Exit → St → AHeap → Prop} {s s' : St} {h : AHeap}

theorem Lift.trans {M M' : Mp} {h h' : AHeap} {w w' : World} {e : Exit} {a : Act} {w'' : World} (p : Post M h w M' h' w') (k : Lift Q M' h' w' e a w'') : Lift Q M h w e a w'' := by
  obtain ⟨M'', s'', h'', q, sr, r, p'⟩ := k
  exact ⟨M'', s'', h'', q, sr, r, p.trans p'⟩

theorem AWP.mono {c : Code} (k : AWP P c Q s h) (hq : ∀ e s h, Q e s h → Q' e s h) : AWP P c Q' s h :=
  fun M a w sr r => wp_mono (k M a w sr r) fun _ _ _ ⟨M', s', h', q, rest⟩ => ⟨M', s', h', hq _ _ _ q, rest⟩

/-- Slots may be forgotten. -/
theorem AWP.weaken {c : Code} (k : AWP P c Q s' h) (hn : s'.n = s.n) (hg : ∀ t v, s'.get t = some v → s.get t = some v) : AWP P c Q s h :=
  fun M a w sr r => k M a w (sr.weaken hn hg) r

theorem AWP.skip (k : Q .normal s h) : AWP P .skip Q s h := fun M _ w sr r => wp_skip ⟨M, s, h, k, sr, r, Post.refl _ _ _⟩
theorem AWP.exit {id : Nat} (k : Q (.exit id) s h) : AWP P (.exit id) Q s h := fun M _ w sr r => wp_exit ⟨M, s, h, k, sr, r, Post.refl _ _ _⟩
theorem AWP.ret (k : Q .ret s h) : AWP P .ret Q s h := fun M _ w sr r => wp_ret ⟨M, s, h, k, sr, r, Post.refl _ _ _⟩

/-- What stands behind: `next` where the code comes to its end, else `Q`. -/
def thn (next : St → AHeap → Prop) (Q : Exit → St → AHeap → Prop) : Exit → St → AHeap → Prop
  | .normal, s, h => next s h
  | e, s, h => Q e s h

theorem AWP.seq {x y : Code} (k : AWP P x (thn (AWP P y Q) Q) s h) : AWP P (.seq x y) Q s h := fun M a w sr r =>
  wp_seq (wp_mono (k M a w sr r) fun e a' w' ⟨M', s', h', q, sr', r', p⟩ => by
    cases e with
    | normal => exact wp_mono (q M' a' w' sr' r') fun e a'' w'' l => Lift.trans p l
    | exit id => exact ⟨M', s', h', q, sr', r', p⟩
    | goto l => exact ⟨M', s', h', q, sr', r', p⟩
    | ret => exact ⟨M', s', h', q, sr', r', p⟩
    | panic ch => exact ⟨M', s', h', q, sr', r', p⟩
    | outgrown => exact ⟨M', s', h', q, sr', r', p⟩)

def inBlk (id : Nat) (Q : Exit → St → AHeap → Prop) : Exit → St → AHeap → Prop
  | .exit id', s, h => if id' = id then Q .normal s h else Q (.exit id') s h
  | e, s, h => Q e s h

theorem AWP.block {id : Nat} {c : Code} (k : AWP P c (inBlk id Q) s h) : AWP P (.block id c) Q s h := fun M a w sr r =>
  wp_block (wp_mono (k M a w sr r) fun e a' w' ⟨M', s', h', q, sr', r', p⟩ => by
    cases e with
    | exit id' =>
      simp only [inBlk] at q
      simp only [Exit.inBlock]
      split
      · rename_i e; rw [if_pos e] at q; exact ⟨M', s', h', q, sr', r', p⟩
      · rename_i e; rw [if_neg e] at q; exact ⟨M', s', h', q, sr', r', p⟩
    | normal => exact ⟨M', s', h', q, sr', r', p⟩
    | goto l => exact ⟨M', s', h', q, sr', r', p⟩
    | ret => exact ⟨M', s', h', q, sr', r', p⟩
    | panic ch => exact ⟨M', s', h', q, sr', r', p⟩
    | outgrown => exact ⟨M', s', h', q, sr', r', p⟩)

theorem AWP.cond {t : Nat} {x y : Code} {b : Bool} (hc : s.get t = some (.bool b)) (ht : b = true → AWP P x Q s h) (hf : b = false → AWP P y Q s h) :
    AWP P (.cond (.tmp t) x y) Q s h := fun M a w sr r => by
  have hv : a.eval (.tmp t) = .bool b := by
    have := sr.get t _ hc
    generalize a.tmps.getD t undef = v at this
    show a.tmps.getD t undef = _
    have h2 := sr.get t _ hc
    generalize a.tmps.getD t undef = v at h2 ⊢
    cases h2; rfl
  exact wp_cond_split hv (fun e => ht e M a w sr r) (fun e => hf e M a w sr r)

theorem exists_least {R : Nat → Prop} (h : ∃ n, R n) : ∃ n, R n ∧ ∀ m, R m → n ≤ m := by
  obtain ⟨n, hn⟩ := h
  induction n using Nat.strongRecOn with
  | _ n ih =>
    by_cases k : ∃ m, m < n ∧ R m
    · obtain ⟨m, hm, hr⟩ := k; exact ih m hm hr
    · exact ⟨n, hn, fun m hm => Nat.le_of_not_lt fun hlt => k ⟨m, hlt, hm⟩⟩

/-- A loop: what holds at each round's head, and a number that each round lowers. -/
theorem AWP.loop {c : Code} (I : Nat → St → AHeap → Prop) (h₀ : ∃ n, I n s h)
    (round : ∀ n s h, I n s h → AWP P c (thn (fun s' h' => ∃ m, m < n ∧ I m s' h') Q) s h) : AWP P (.loop c) Q s h := by
  classical
  intro M a w sr r
  let R : Nat → Act → World → Prop := fun n a' w' => ∃ M' s' h', I n s' h' ∧ SRel M' s' a' ∧ Rel M' h' w' ∧ Post M h w M' h' w'
  let μ : Act → World → Nat := fun a' w' => if hx : ∃ n, R n a' w' then Classical.choose (exists_least hx) else 0
  refine wp_loop (fun a' w' => ∃ n, R n a' w') μ ?_ ?_
  · obtain ⟨n, hn⟩ := h₀
    exact ⟨n, M, s, h, hn, sr, r, Post.refl _ _ _⟩
  · intro a' w' hx
    have hR := (Classical.choose_spec (exists_least hx)).1
    have hμ : μ a' w' = Classical.choose (exists_least hx) := dif_pos hx
    obtain ⟨M', s', h', hi, sr', r', p⟩ := hR
    refine wp_mono (round _ s' h' hi M' a' w' sr' r') ?_
    rintro e a'' w'' ⟨M'', s'', h'', q, sr'', r'', p'⟩
    cases e with
    | normal =>
      obtain ⟨m, hm, hi'⟩ := q
      have hx' : ∃ n, R n a'' w'' := ⟨m, M'', s'', h'', hi', sr'', r'', p.trans p'⟩
      refine ⟨hx', ?_⟩
      have h2 : μ a'' w'' = Classical.choose (exists_least hx') := dif_pos hx'
      rw [h2, hμ]
      exact Nat.lt_of_le_of_lt ((Classical.choose_spec (exists_least hx')).2 m ⟨M'', s'', h'', hi', sr'', r'', p.trans p'⟩) hm
    | exit id => exact ⟨M'', s'', h'', q, sr'', r'', p.trans p'⟩
    | goto l => exact ⟨M'', s'', h'', q, sr'', r'', p.trans p'⟩
    | ret => exact ⟨M'', s'', h'', q, sr'', r'', p.trans p'⟩
    | panic ch => exact ⟨M'', s'', h'', q, sr'', r'', p.trans p'⟩
    | outgrown => exact ⟨M'', s'', h'', q, sr'', r'', p.trans p'⟩
end
end Ab
