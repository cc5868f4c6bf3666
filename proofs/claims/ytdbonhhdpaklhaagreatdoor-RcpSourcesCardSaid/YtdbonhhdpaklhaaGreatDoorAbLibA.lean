import Derived.Calls
import Derived.Laws.Entries
import Derived.Laws.Cells
import Derived.Laws.BytesArg
import Derived.Lib.ConvBytes
import Derived.Laws.AppendOwn
import Derived.IntWalk
import Derived.WideKeyMaps
import Derived.DeepKeys4
import Derived.Laws.StructEq
import Derived.Laws.IdiomRangeMap
import Derived.Laws.Build
import Derived.Laws.Externs
import Derived.Lib.BytesEntry
import Derived.Lib.Bytealg
section
namespace Ab
open Go
set_option autoImplicit false
set_option linter.unusedVariables false

/-- Where an object of the abstract heap lies: its block, from which cell on, how many cells to the block's end, how many cells an element of its row has; may there be more cells than are told of? -/
structure Blk where
  blk : Nat
  base : Nat
  size : Nat
  esz : Nat
  opn : Bool

abbrev Mp := Nat → Option Blk

/-- A value that stands for a value of which nothing is known. -/
def poison : Value := .complex .f32 1 1

inductive VRel (M : Mp) : Value → Value → Prop
  | any (v : Value) : VRel M poison v
  | bool (b : Bool) : VRel M (.bool b) (.bool b)
  | int (k : IntKind) (n : Int) : VRel M (.int k n) (.int k n)
  | string (s : ByteArray) : VRel M (.string s) (.string s)
  | nilPtr : VRel M (.pointer none) (.pointer none)
  | ptr (i off : Nat) (b : Blk) : M i = some b → VRel M (.pointer (some ⟨i, off, none⟩)) (.pointer (some ⟨b.blk, b.base + off, none⟩))
  | nilSlice : VRel M (.slice none 0 0) (.slice none 0 0)
  | slice (i off len cap cap' : Nat) (b : Blk) : M i = some b → len ≤ cap → (cap' = cap ∨ (b.opn = true ∧ cap ≤ cap' ∧ off + cap' * b.esz ≤ b.size)) →
      VRel M (.slice (some ⟨i, off, none⟩) len cap) (.slice (some ⟨b.blk, b.base + off, none⟩) len cap')
  | slice0 (i off off' cap' : Nat) (b : Blk) : M i = some b → (cap' = 0 ∨ (b.opn = true ∧ off' + cap' * b.esz ≤ b.size)) →
      VRel M (.slice (some ⟨i, off, none⟩) 0 0) (.slice (some ⟨b.blk, b.base + off', none⟩) 0 cap')
  | slice00 (i off : Nat) (a : Addr) (b : Blk) : M i = some b → VRel M (.slice (some ⟨i, off, none⟩) 0 0) (.slice (some a) 0 0)
  | nilMap : VRel M (.map none) (.map none)
  | map (i : Nat) (b : Blk) : M i = some b → VRel M (.map (some i)) (.map (some b.blk))
  | nilFunc : VRel M .nilFunc .nilFunc
  | func (fn : Fn) (f f' c c' : Array Value) : f.size = f'.size → (∀ j (h : j < f.size) (h' : j < f'.size), VRel M f[j] f'[j]) →
      c.size = c'.size → (∀ j (h : j < c.size) (h' : j < c'.size), VRel M c[j] c'[j]) → VRel M (.func fn f c) (.func fn f' c')
  | nilIface : VRel M .nilIface .nilIface
  | iface (t : TypeId) (v v' : Value) : VRel M v v' → VRel M (.iface t v) (.iface t v')
  | agg (c c' : Array Value) : c.size = c'.size → (∀ j (h : j < c.size) (h' : j < c'.size), VRel M c[j] c'[j]) → VRel M (.agg c) (.agg c')
  | tuple (c c' : Array Value) : c.size = c'.size → (∀ j (h : j < c.size) (h' : j < c'.size), VRel M c[j] c'[j]) → VRel M (.tuple c) (.tuple c')

/-- Two arrays of values, one by one. -/
def VRels (M : Mp) (c c' : Array Value) : Prop := c.size = c'.size ∧ ∀ j (h : j < c.size) (h' : j < c'.size), VRel M c[j] c'[j]

theorem VRels.agg {M : Mp} {c c' : Array Value} (h : VRels M c c') : VRel M (.agg c) (.agg c') := .agg _ _ h.1 h.2
theorem VRels.tuple {M : Mp} {c c' : Array Value} (h : VRels M c c') : VRel M (.tuple c) (.tuple c') := .tuple _ _ h.1 h.2

def Mp.le (M M' : Mp) : Prop := ∀ i b, M i = some b → M' i = some b
theorem Mp.le.rfl {M : Mp} : M.le M := fun _ _ h => h
theorem Mp.le.trans {M M' M'' : Mp} (h : M.le M') (h' : M'.le M'') : M.le M'' := fun i b k => h' i b (h i b k)

theorem VRel.mono {M M' : Mp} (hM : M.le M') {v v' : Value} (h : VRel M v v') : VRel M' v v' := by
  induction h with
  | any v => exact .any v
  | bool b => exact .bool b
  | int k n => exact .int k n
  | string s => exact .string s
  | nilPtr => exact .nilPtr
  | ptr i off b h => exact .ptr i off b (hM _ _ h)
  | nilSlice => exact .nilSlice
  | slice i off len cap cap' b h h1 h2 => exact .slice i off len cap cap' b (hM _ _ h) h1 h2
  | slice0 i off off' cap' b h h1 => exact .slice0 i off off' cap' b (hM _ _ h) h1
  | slice00 i off a b h => exact .slice00 i off a b (hM _ _ h)
  | nilMap => exact .nilMap
  | map i b h => exact .map i b (hM _ _ h)
  | nilFunc => exact .nilFunc
  | func fn f f' c c' h1 _ h3 _ ih1 ih2 => exact .func fn f f' c c' h1 ih1 h3 ih2
  | nilIface => exact .nilIface
  | iface t v v' _ ih => exact .iface t v v' ih
  | agg c c' h1 _ ih => exact .agg c c' h1 ih
  | tuple c c' h1 _ ih => exact .tuple c c' h1 ih

theorem VRels.mono {M M' : Mp} (hM : M.le M') {c c' : Array Value} (h : VRels M c c') : VRels M' c c' := ⟨h.1, fun j a b => (h.2 j a b).mono hM⟩

/-- An object of the abstract heap. -/
inductive AObj where
  | row (c : List Value) (elem : TypeId) (esz : Nat) (tight ro : Bool)
  | other (o : Obj)

structure AHeap where
  obj : Nat → Option AObj
  next : Nat
  base : Nat

def RowRel (M : Mp) (b : Blk) (w : World) (c : List Value) (elem : TypeId) (esz : Nat) (tight ro : Bool) : Prop :=
  ∃ cc lo hi, w.heap[b.blk]? = some (.cells cc elem (lo, hi)) ∧ cc.size = b.base + b.size ∧ c.length ≤ b.size ∧ b.esz = esz ∧ (tight = true → b.opn = false) ∧
    (ro = false → lo = hi ∨ cc.size ≤ lo) ∧ ∀ j v, c[j]? = some v → ∃ vc, cc[b.base + j]? = some vc ∧ VRel M v vc

def MapRel (M : Mp) (es es' : Array MapEntry) : Prop :=
  es.size = es'.size ∧ ∀ j (h : j < es.size) (h' : j < es'.size), es[j].key = es'[j].key ∧ es[j].born = es'[j].born ∧ VRel M es[j].val es'[j].val

def ObjRel (M : Mp) (b : Blk) (w : World) : AObj → Prop
  | .row c elem esz tight ro => RowRel M b w c elem esz tight ro
  | .other (.map es clock) => ∃ es', w.heap[b.blk]? = some (.map es' clock) ∧ MapRel M es es'
  | .other (.mapIter m since seen stepped) => b.base = 0 ∧ ∃ m', w.heap[b.blk]? = some (.mapIter m' since seen stepped) ∧ VRel M (.map m) (.map m')
  | .other (.stringIter s pos) => b.base = 0 ∧ w.heap[b.blk]? = some (.stringIter s pos)
  | .other _ => False

structure Rel (M : Mp) (h : AHeap) (w : World) : Prop where
  live : ∀ i o b, h.obj i = some o → M i = some b → ObjRel M b w o
  inj : ∀ i j b b', (h.obj i).isSome → (h.obj j).isSome → M i = some b → M j = some b' → b.blk = b'.blk → i = j
  fresh : ∀ i, h.next ≤ i → M i = none
  glob : ∀ i, i < h.base → ∃ b, M i = some b ∧ b.blk = i ∧ b.base = 0
  inb : ∀ i b, M i = some b → b.blk < w.heap.size
  ble : h.base ≤ h.next
  bnd : ∀ i, h.next ≤ i → h.obj i = none
  oldro : ∀ i o, i < h.base → h.obj i = some o → ∃ c e sz ti, o = .row c e sz ti true
  nb : ∀ i b, h.base ≤ i → M i = some b → h.base ≤ b.blk
  b0 : ∀ i b, M i = some b → b.opn = false → b.base = 0

theorem Rel.bsz {M : Mp} {h : AHeap} {w : World} (r : Rel M h w) : h.base ≤ w.heap.size := by
  rcases Nat.eq_zero_or_pos h.base with h0 | h0
  · omega
  · obtain ⟨b, h1, h2, _⟩ := r.glob (h.base - 1) (by omega)
    have := r.inb _ b h1
    omega

theorem Rel.notOld {M : Mp} {h : AHeap} {w : World} (r : Rel M h w) {i : Nat} {c : List Value} {e : TypeId} {sz : Nat} {ti : Bool} (ho : h.obj i = some (.row c e sz ti false)) : h.base ≤ i := by
  rcases Nat.lt_or_ge i h.base with hi | hi
  · obtain ⟨c', e', sz', ti', he⟩ := r.oldro i _ hi ho
    cases he
  · exact hi

structure Post (M : Mp) (h : AHeap) (w : World) (M' : Mp) (h' : AHeap) (w' : World) : Prop where
  ext : M.le M'
  ghost : ∀ i, i < h.next → M i = none → M' i = none
  next : h.next ≤ h'.next
  base : h'.base = h.base
  size : w.heap.size ≤ w'.heap.size
  os : w'.os = w.os
  tape : w'.tape = w.tape
  output : w'.output = w.output
  frame : ∀ k, k < w.heap.size → (∀ i b, (h.obj i).isSome → M i = some b → b.blk ≠ k) → w'.heap[k]? = w.heap[k]?
  old : ∀ k, k < h.base → w'.heap[k]? = w.heap[k]?
  grow : ∀ i b, (h'.obj i).isSome → M' i = some b → w.heap.size ≤ b.blk ∨ ∃ j b2, (h.obj j).isSome ∧ M j = some b2 ∧ b2.blk = b.blk

theorem Post.refl (M : Mp) (h : AHeap) (w : World) : Post M h w M h w where
  ext := .rfl
  ghost := fun _ _ h => h
  next := Nat.le_refl _
  base := rfl
  size := Nat.le_refl _
  os := rfl
  tape := rfl
  output := rfl
  frame := fun _ _ _ => rfl
  old := fun _ _ => rfl
  grow := fun i b hi hM => .inr ⟨i, b, hi, hM, rfl⟩

theorem Post.trans {M M' M'' : Mp} {h h' h'' : AHeap} {w w' w'' : World} (a : Post M h w M' h' w') (b : Post M' h' w' M'' h'' w'') : Post M h w M'' h'' w'' where
  ext := a.ext.trans b.ext
  ghost := fun i hi hn => b.ghost i (Nat.lt_of_lt_of_le hi a.next) (a.ghost i hi hn)
  next := Nat.le_trans a.next b.next
  base := b.base.trans a.base
  size := Nat.le_trans a.size b.size
  os := b.os.trans a.os
  tape := b.tape.trans a.tape
  output := b.output.trans a.output
  frame := fun k hk hu => by
    rw [b.frame k (Nat.lt_of_lt_of_le hk a.size) ?_, a.frame k hk hu]
    intro i bb hi hM e
    rcases a.grow i bb hi hM with h1 | ⟨j, b2, hj, hj2, e2⟩
    · omega
    · exact hu j b2 hj hj2 (e2.trans e)
  old := fun k hk => (b.old k (by rw [a.base]; exact hk)).trans (a.old k hk)
  grow := fun i bb hi hM => by
    rcases b.grow i bb hi hM with h1 | ⟨j, b2, hj, hj2, e2⟩
    · exact .inl (Nat.le_trans a.size h1)
    · rcases a.grow j b2 hj hj2 with h1 | ⟨j', b3, hj', hj3, e3⟩
      · exact .inl (e2 ▸ h1)
      · exact .inr ⟨j', b3, hj', hj3, e3.trans e2⟩

/-- A draw turns no block. -/
theorem Rel.world {M : Mp} {h : AHeap} {w w' : World} (r : Rel M h w) (e : w'.heap = w.heap) : Rel M h w' where
  live := fun i o b ho hM => by
    have := r.live i o b ho hM
    cases o with
    | row c elem esz tight ro => unfold ObjRel RowRel at *; rw [e]; exact this
    | other o => cases o <;> first | exact this.elim | (unfold ObjRel at *; rw [e]; exact this)
  inj := r.inj
  fresh := r.fresh
  glob := r.glob
  inb := fun i b hM => by rw [e]; exact r.inb i b hM
  ble := r.ble
  bnd := r.bnd
  oldro := r.oldro
  nb := r.nb
  b0 := r.b0

theorem Post.world {M : Mp} {h : AHeap} {w w' : World} (e : w'.heap = w.heap) (e1 : w'.os = w.os) (e2 : w'.tape = w.tape) (e3 : w'.output = w.output) : Post M h w M h w' where
  ext := .rfl
  ghost := fun _ _ h => h
  next := Nat.le_refl _
  base := rfl
  size := by rw [e]; exact Nat.le_refl _
  os := e1
  tape := e2
  output := e3
  frame := fun _ _ _ => by rw [e]
  old := fun _ _ => by rw [e]
  grow := fun i b hi hM => .inr ⟨i, b, hi, hM, rfl⟩

/-! ### Slots -/
structure St where
  n : Nat
  l : List (Nat × Value)

def lk : List (Nat × Value) → Nat → Option Value
  | [], _ => none
  | (k, v) :: l, t => if k = t then some v else lk l t

def St.get (s : St) (t : Nat) : Option Value := lk s.l t
def St.put (s : St) (t : Nat) (v : Value) : St := { s with l := (t, v) :: s.l }

structure SRel (M : Mp) (s : St) (a : Act) : Prop where
  defers : a.defers = []
  size : a.tmps.size = s.n
  get : ∀ t v, s.get t = some v → VRel M v (a.tmps.getD t undef)

theorem SRel.mono {M M' : Mp} {s : St} {a : Act} (hM : M.le M') (h : SRel M s a) : SRel M' s a := ⟨h.defers, h.size, fun t v k => (h.get t v k).mono hM⟩

theorem SRel.put {M : Mp} {s : St} {a : Act} (h : SRel M s a) {d : Nat} (hd : d < s.n) {v vc : Value} (hv : VRel M v vc) : SRel M (s.put d v) (a.put (some d) vc) where
  defers := h.defers
  size := by simp [Act.put, St.put, h.size]
  get := fun t u hu => by
    have hs := h.size
    simp only [St.get, St.put, lk] at hu
    by_cases e : d = t
    · subst e
      rw [if_pos rfl] at hu
      obtain rfl := Option.some.inj hu
      have : d < a.tmps.size := by omega
      simpa [Act.put, Array.getD, this] using hv
    · rw [if_neg e] at hu
      have := h.get t u hu
      have e2 : (a.put (some d) vc).tmps.getD t undef = a.tmps.getD t undef := by
        show (a.tmps.setIfInBounds d vc).getD t undef = _
        rw [Array.getD_eq_getD_getElem?, Array.getD_eq_getD_getElem?, Array.getElem?_setIfInBounds_ne e]
      rw [e2]; exact this

/-- What is known of fewer slots. -/
theorem SRel.weaken {M : Mp} {s s' : St} {a : Act} (h : SRel M s a) (hn : s'.n = s.n) (hg : ∀ t v, s'.get t = some v → s.get t = some v) : SRel M s' a :=
  ⟨h.defers, h.size.trans hn.symm, fun t v k => h.get t v (hg t v k)⟩

/-! ### The two readings: of code, and of calls -/
def Lift (Q : Exit → St → AHeap → Prop) (M : Mp) (h : AHeap) (w : World) : Exit → Act → World → Prop :=
  fun e a' w' => ∃ M' s' h', Q e s' h' ∧ SRel M' s' a' ∧ Rel M' h' w' ∧ Post M h w M' h' w'

def AWP (P : Program) (c : Code) (Q : Exit → St → AHeap → Prop) (s : St) (h : AHeap) : Prop :=
  ∀ M a w, SRel M s a → Rel M h w → c.wp P (Lift Q M h w) a w

def ACalls (P : Program) (f : FuncId) (args : Array Value) (h : AHeap) (Q : Value → AHeap → Prop) : Prop :=
  ∀ M w cargs, Rel M h w → VRels M args cargs → Calls P f cargs w fun e w' =>
    ∃ v vc M' h', e = .returned vc ∧ Q v h' ∧ VRel M' v vc ∧ Rel M' h' w' ∧ Post M h w M' h' w'

theorem ACalls.mono {P : Program} {f : FuncId} {args : Array Value} {h : AHeap} {Q Q' : Value → AHeap → Prop} (k : ACalls P f args h Q) (hq : ∀ v h', Q v h' → Q' v h') : ACalls P f args h Q' :=
  fun M w cargs r va => (k M w cargs r va).mono fun _ _ ⟨v, vc, M', h', e, q, rest⟩ => ⟨v, vc, M', h', e, hq _ _ q, rest⟩

section
variable {P : Program} {Q Q' : Exit → St → AHeap → Prop} {s s' : St} {h : AHeap}

theorem Lift.trans {M M' : Mp} {h h' : AHeap} {w w' : World} {e : Exit} {a : Act} {w'' : World} (p : Post M h w M' h' w') (k : Lift Q M' h' w' e a w'') : Lift Q M h w e a w'' := by
  obtain ⟨M'', s'', h'', q, sr, r, p'⟩ := k
  exact ⟨M'', s'', h'', q, sr, r, p.trans p'⟩

theorem AWP.mono {c : Code} (k : AWP P c Q s h) (hq : ∀ e s h, Q e s h → Q' e s h) : AWP P c Q' s h :=
  fun M a w sr r => wp_mono (k M a w sr r) fun _ _ _ ⟨M', s', h', q, rest⟩ => ⟨M', s', h', hq _ _ _ q, rest⟩

/-- Slots may be forgotten. -/
theorem AWP.weaken {c : Code} (k : AWP P c Q s' h) (hn : s'.n = s.n) (hg : ∀ t v, s'.get t = some v → s.get t = some v) : AWP P c Q s h :=
  fun M a w sr r => k M a w (sr.weaken hn hg) r

theorem AWP.skip (k : Q .normal s h) : AWP P .skip Q s h := fun M _ w sr r => wp_skip ⟨M, s, h, k, sr, r, Post.refl _ _ _⟩
theorem AWP.exit {id : Nat} (k : Q (.exit id) s h) : AWP P (.exit id) Q s h := fun M _ w sr r => wp_exit ⟨M, s, h, k, sr, r, Post.refl _ _ _⟩
theorem AWP.ret (k : Q .ret s h) : AWP P .ret Q s h := fun M _ w sr r => wp_ret ⟨M, s, h, k, sr, r, Post.refl _ _ _⟩

/-- What stands behind: `next` where the code comes to its end, else `Q`. -/
def thn (next : St → AHeap → Prop) (Q : Exit → St → AHeap → Prop) : Exit → St → AHeap → Prop
  | .normal, s, h => next s h
  | e, s, h => Q e s h

theorem AWP.seq {x y : Code} (k : AWP P x (thn (AWP P y Q) Q) s h) : AWP P (.seq x y) Q s h := fun M a w sr r =>
  wp_seq (wp_mono (k M a w sr r) fun e a' w' ⟨M', s', h', q, sr', r', p⟩ => by
    cases e with
    | normal => exact wp_mono (q M' a' w' sr' r') fun e a'' w'' l => Lift.trans p l
    | exit id => exact ⟨M', s', h', q, sr', r', p⟩
    | goto l => exact ⟨M', s', h', q, sr', r', p⟩
    | ret => exact ⟨M', s', h', q, sr', r', p⟩
    | panic ch => exact ⟨M', s', h', q, sr', r', p⟩
    | outgrown => exact ⟨M', s', h', q, sr', r', p⟩)

def inBlk (id : Nat) (Q : Exit → St → AHeap → Prop) : Exit → St → AHeap → Prop
  | .exit id', s, h => if id' = id then Q .normal s h else Q (.exit id') s h
  | e, s, h => Q e s h

theorem AWP.block {id : Nat} {c : Code} (k : AWP P c (inBlk id Q) s h) : AWP P (.block id c) Q s h := fun M a w sr r =>
  wp_block (wp_mono (k M a w sr r) fun e a' w' ⟨M', s', h', q, sr', r', p⟩ => by
    cases e with
    | exit id' =>
      simp only [inBlk] at q
      simp only [Exit.inBlock]
      split
      · rename_i e; rw [if_pos e] at q; exact ⟨M', s', h', q, sr', r', p⟩
      · rename_i e; rw [if_neg e] at q; exact ⟨M', s', h', q, sr', r', p⟩
    | normal => exact ⟨M', s', h', q, sr', r', p⟩
    | goto l => exact ⟨M', s', h', q, sr', r', p⟩
    | ret => exact ⟨M', s', h', q, sr', r', p⟩
    | panic ch => exact ⟨M', s', h', q, sr', r', p⟩
    | outgrown => exact ⟨M', s', h', q, sr', r', p⟩)

theorem AWP.cond {t : Nat} {x y : Code} {b : Bool} (hc : s.get t = some (.bool b)) (ht : b = true → AWP P x Q s h) (hf : b = false → AWP P y Q s h) :
    AWP P (.cond (.tmp t) x y) Q s h := fun M a w sr r => by
  have hv : a.eval (.tmp t) = .bool b := by
    have := sr.get t _ hc
    generalize a.tmps.getD t undef = v at this
    show a.tmps.getD t undef = _
    have h2 := sr.get t _ hc
    generalize a.tmps.getD t undef = v at h2 ⊢
    cases h2; rfl
  exact wp_cond_split hv (fun e => ht e M a w sr r) (fun e => hf e M a w sr r)

theorem exists_least {R : Nat → Prop} (h : ∃ n, R n) : ∃ n, R n ∧ ∀ m, R m → n ≤ m := by
  obtain ⟨n, hn⟩ := h
  induction n using Nat.strongRecOn with
  | _ n ih =>
    by_cases k : ∃ m, m < n ∧ R m
    · obtain ⟨m, hm, hr⟩ := k; exact ih m hm hr
    · exact ⟨n, hn, fun m hm => Nat.le_of_not_lt fun hlt => k ⟨m, hlt, hm⟩⟩

/-- A loop: what holds at each round's head, and a number that each round lowers. -/
theorem AWP.loop {c : Code} (I : Nat → St → AHeap → Prop) (h₀ : ∃ n, I n s h)
    (round : ∀ n s h, I n s h → AWP P c (thn (fun s' h' => ∃ m, m < n ∧ I m s' h') Q) s h) : AWP P (.loop c) Q s h := by
  classical
  intro M a w sr r
  let R : Nat → Act → World → Prop := fun n a' w' => ∃ M' s' h', I n s' h' ∧ SRel M' s' a' ∧ Rel M' h' w' ∧ Post M h w M' h' w'
  let μ : Act → World → Nat := fun a' w' => if hx : ∃ n, R n a' w' then Classical.choose (exists_least hx) else 0
  refine wp_loop (fun a' w' => ∃ n, R n a' w') μ ?_ ?_
  · obtain ⟨n, hn⟩ := h₀
    exact ⟨n, M, s, h, hn, sr, r, Post.refl _ _ _⟩
  · intro a' w' hx
    have hR := (Classical.choose_spec (exists_least hx)).1
    have hμ : μ a' w' = Classical.choose (exists_least hx) := dif_pos hx
    obtain ⟨M', s', h', hi, sr', r', p⟩ := hR
    refine wp_mono (round _ s' h' hi M' a' w' sr' r') ?_
    rintro e a'' w'' ⟨M'', s'', h'', q, sr'', r'', p'⟩
    cases e with
    | normal =>
      obtain ⟨m, hm, hi'⟩ := q
      have hx' : ∃ n, R n a'' w'' := ⟨m, M'', s'', h'', hi', sr'', r'', p.trans p'⟩
      refine ⟨hx', ?_⟩
      have h2 : μ a'' w'' = Classical.choose (exists_least hx') := dif_pos hx'
      rw [h2, hμ]
      exact Nat.lt_of_le_of_lt ((Classical.choose_spec (exists_least hx')).2 m ⟨M'', s'', h'', hi', sr'', r'', p.trans p'⟩) hm
    | exit id => exact ⟨M'', s'', h'', q, sr'', r'', p.trans p'⟩
    | goto l => exact ⟨M'', s'', h'', q, sr'', r'', p.trans p'⟩
    | ret => exact ⟨M'', s'', h'', q, sr'', r'', p.trans p'⟩
    | panic ch => exact ⟨M'', s'', h'', q, sr'', r'', p.trans p'⟩
    | outgrown => exact ⟨M'', s'', h'', q, sr'', r'', p.trans p'⟩
end
end Ab
end

section
namespace Ab
open Go
set_option autoImplicit false
set_option linter.unusedVariables false
set_option linter.unusedSimpArgs false

/-! ### Operands -/
def constCell : Value → Bool
  | .bool _ | .int _ _ | .string _ | .pointer none | .slice none 0 0 | .map none | .nilFunc | .nilIface => true
  | _ => false
def constOk : Value → Bool
  | .agg cs => cs.toList.all constCell
  | v => constCell v

theorem VRel.cell (M : Mp) {v : Value} (h : constCell v = true) : VRel M v v := by
  unfold constCell at h
  split at h <;> first | exact .bool _ | exact .int _ _ | exact .string _ | exact .nilPtr | exact .nilSlice | exact .nilMap | exact .nilFunc | exact .nilIface | (simp at h)

theorem VRel.const (M : Mp) {v : Value} (h : constOk v = true) : VRel M v v := by
  unfold constOk at h
  split at h
  · rename_i cs
    refine .agg _ _ rfl fun j h1 h2 => VRel.cell M ?_
    rw [List.all_eq_true] at h
    exact h _ (by simp)
  · exact VRel.cell M h

def ev (base : Nat) (s : St) : Operand → Option Value
  | .tmp t => s.get t
  | .const v => if constOk v then some v else none
  | .global g => if g < base then some (.pointer (some ⟨g, 0, none⟩)) else none
  | .func f => some (.func (.func f) #[] #[])

theorem ev_sound {M : Mp} {s : St} {h : AHeap} {a : Act} {w : World} (sr : SRel M s a) (r : Rel M h w) {x : Operand} {v : Value} (e : ev h.base s x = some v) : VRel M v (a.eval x) := by
  cases x with
  | tmp t => exact sr.get t v e
  | const u =>
    simp only [ev] at e; split at e
    · rename_i hc; obtain rfl := Option.some.inj e; exact VRel.const M hc
    · cases e
  | global g =>
    simp only [ev] at e; split at e
    · rename_i hg; obtain rfl := Option.some.inj e
      obtain ⟨b, hM, h1, h2⟩ := r.glob g hg
      have := VRel.ptr (M := M) g 0 b hM
      rwa [h1, h2] at this
    · cases e
  | func f => obtain rfl := Option.some.inj e; exact .func _ _ _ _ _ rfl (fun j h => absurd h (by simp)) rfl (fun j h => absurd h (by simp))

/-! ### Numbers, truth values, texts -/
def cmpI : BinOp → Int → Int → Option Bool
  | .eql, a, b => some (a == b)
  | .neq, a, b => some (a != b)
  | .lss, a, b => some (decide (a < b))
  | .leq, a, b => some (decide (a ≤ b))
  | .gtr, a, b => some (decide (a > b))
  | .geq, a, b => some (decide (a ≥ b))
  | _, _, _ => none

def arithI : BinOp → IntKind → Int → Int → Option Int
  | .add, k, a, b => some (k.wrap (a + b))
  | .sub, k, a, b => some (k.wrap (a - b))
  | .mul, k, a, b => some (k.wrap (a * b))
  | .quo, k, a, b => if b = 0 then none else some (k.wrap (a.tdiv b))
  | .rem, _, a, b => if b = 0 then none else some (a.tmod b)
  | .and, k, a, b => some (k.wrap (BitVec.ofInt k.bits a &&& BitVec.ofInt k.bits b).toNat)
  | .or, k, a, b => some (k.wrap (BitVec.ofInt k.bits a ||| BitVec.ofInt k.bits b).toNat)
  | .xor, k, a, b => some (k.wrap (BitVec.ofInt k.bits a ^^^ BitVec.ofInt k.bits b).toNat)
  | .andNot, k, a, b => some (k.wrap (BitVec.ofInt k.bits a &&& ~~~ BitVec.ofInt k.bits b).toNat)
  | _, _, _, _ => none

def shiftI : BinOp → IntKind → Int → Int → Option Int
  | .shl, k, a, b => if b < 0 then none else some (k.wrap (a * 2 ^ (min b.toNat k.bits)))
  | .shr, k, a, b => if b < 0 then none else some (a.fdiv (2 ^ (min b.toNat k.bits)))
  | _, _, _, _ => none

def isShift : BinOp → Bool
  | .shl | .shr => true
  | _ => false

def strA : BinOp → ByteArray → ByteArray → Option Value
  | .add, a, b => if a.size + b.size ≤ 9223372036854775807 then some (.string (a ++ b)) else none
  | .eql, a, b => some (.bool (a.toList == b.toList))
  | .neq, a, b => some (.bool !(a.toList == b.toList))
  | .lss, a, b => some (.bool (Op.bytesLess a.toList b.toList))
  | .leq, a, b => some (.bool (Op.bytesLess a.toList b.toList || a.toList == b.toList))
  | .gtr, a, b => some (.bool !(Op.bytesLess a.toList b.toList || a.toList == b.toList))
  | .geq, a, b => some (.bool !(Op.bytesLess a.toList b.toList))
  | _, _, _ => none

/-- '==' of what is no number and no text: truth values; against nil. -/
def eqA (P : Program) (t : TypeId) : Value → Value → Option Bool
  | .bool a, .bool b => match P.underlying t with | some .bool => some (a == b) | _ => none
  | .pointer none, .pointer b => match P.underlying t with | some (.pointer _) => some b.isNone | _ => none
  | .pointer (some _), .pointer none => match P.underlying t with | some (.pointer _) => some false | _ => none
  | .slice none _ _, .slice b _ _ => match P.underlying t with | some (.slice _) => some b.isNone | _ => none
  | .slice (some _) _ _, .slice none _ _ => match P.underlying t with | some (.slice _) => some false | _ => none
  | .map none, .map b => match P.underlying t with | some (.map _ _) => some b.isNone | _ => none
  | .map (some _), .map none => match P.underlying t with | some (.map _ _) => some false | _ => none
  | _, _ => none

def binA (P : Program) (op : BinOp) (t : TypeId) : Value → Value → Option Value
  | .int k a, .int k' b =>
    if isShift op then (shiftI op k a b).map (.int k)
    else if k = k' then
      match arithI op k a b with
      | some n => some (.int k n)
      | none => (cmpI op a b).map .bool
    else none
  | .string a, .string b => strA op a b
  | x, y => match op with
    | .eql => (eqA P t x y).map .bool
    | .neq => (eqA P t x y).map fun b => .bool !b
    | _ => none

theorem run_binInt {P : Program} {op : BinOp} {t : TypeId} {k k' : IntKind} {a b : Int} {v : Value} (w : World) (h : binA P op t (.int k a) (.int k' b) = some v) :
    (binOp op t (.int k a) (.int k' b)).run P w = .ok v w := by
  simp only [binA] at h
  split at h
  · rename_i hs
    cases op <;> simp [isShift] at hs <;> simp only [shiftI] at h <;> split at h <;> simp at h <;> subst h <;> rename_i hb <;>
      simp [binOp, Op.shift, hb]
  · rename_i hs
    split at h
    · rename_i hk
      subst hk
      cases op <;> simp [isShift] at hs <;> simp [arithI, cmpI] at h <;>
        first
        | (subst h; simp [binOp, Op.intArith, Op.intBits, Op.intCmp])
        | (obtain ⟨h0, h⟩ : ¬ b = 0 ∧ _ := by
            by_cases hb : b = 0
            · simp [hb] at h
            · simp [hb] at h; exact ⟨hb, h⟩
           subst h; simp [binOp, Op.intDiv, h0])
    · cases h

theorem run_binStr {P : Program} {op : BinOp} {t : TypeId} {a b : ByteArray} {v : Value} (w : World) (h : strA op a b = some v) :
    (binOp op t (.string a) (.string b)).run P w = .ok v w := by
  cases op <;> simp [strA] at h
  case add =>
    obtain ⟨h0, h⟩ := h
    subst h
    have : ¬ (((a.size + b.size : Nat) : Int) > IntKind.i64.max) := by
      have e : IntKind.i64.max = 9223372036854775807 := by decide
      rw [e]; omega
    simp only [binOp, Op.stringOp, if_neg this, Sem.run_pure]
  all_goals (subst h; simp [binOp, Op.stringOp])

theorem equal_eq (t : TypeId) (x y : Value) : Op.equal t x y = Op.equalIn (9999 + 1) t x y := rfl

theorem run_eqA {P : Program} {t : TypeId} {M : Mp} {x x' y y' : Value} {b : Bool} (w : World) (hx : VRel M x x') (hy : VRel M y y') (h : eqA P t x y = some b) :
    (Op.equal t x' y').run P w = .ok b w := by
  rw [equal_eq, Op.equalIn]
  cases hx <;> cases hy <;> simp only [eqA, poison] at h <;> first
    | (cases h; done)
    | (split at h
       · rename_i ht
         simp only [Option.some.injEq] at h
         subst h
         rw [Sem.run_bind, run_underlying ht]
         rfl
       · cases h)

/-- The guard ahead of '==' lets by all that is neither a nil interface nor an aggregate. -/
def plainV : Value → Bool
  | .nilIface | .agg _ => false
  | _ => true

theorem run_eqGuard {P : Program} (op : BinOp) (t : TypeId) (x y : Operand) {a b : Value} (w : World) (h : plainV a = true) :
    (eqGuard op t x y a b).run P w = .ok () w := by
  unfold eqGuard
  cases a <;> simp [plainV] at h <;> (simp only [Sem.run_bind, Sem.run_ite, Sem.run_pure]; (try (split <;> rfl)))

theorem binA_plain {P : Program} {op : BinOp} {t : TypeId} {x y v : Value} (h : binA P op t x y = some v) : plainV x = true ∧ constCell v = true := by
  constructor
  · cases x <;> first | rfl | (cases y <;> cases op <;> simp [binA, eqA] at h)
  · unfold binA at h
    split at h
    · split at h
      · simp only [Option.map_eq_some_iff] at h; obtain ⟨n, _, rfl⟩ := h; rfl
      · split at h
        · split at h
          · obtain rfl := Option.some.inj h; rfl
          · simp only [Option.map_eq_some_iff] at h; obtain ⟨n, _, rfl⟩ := h; rfl
        · cases h
    · unfold strA at h
      split at h <;> first | (obtain rfl := Option.some.inj h; rfl) | (cases h; done) | (split at h <;> first | (obtain rfl := Option.some.inj h; rfl) | (cases h; done))
    · split at h <;> first | (cases h; done) | (simp only [Option.map_eq_some_iff] at h; obtain ⟨n, _, rfl⟩ := h; rfl)

theorem binA_sound {P : Program} {op : BinOp} {t : TypeId} {M : Mp} {x x' y y' v : Value} (w : World) (hx : VRel M x x') (hy : VRel M y y') (h : binA P op t x y = some v) :
    (binOp op t x' y').run P w = .ok v w := by
  by_cases hi : ∃ k a k' b, x = .int k a ∧ y = .int k' b
  · obtain ⟨k, a, k', b, rfl, rfl⟩ := hi
    cases hx; cases hy
    exact run_binInt w h
  · by_cases hs : ∃ a b, x = .string a ∧ y = .string b
    · obtain ⟨a, b, rfl, rfl⟩ := hs
      cases hx; cases hy
      exact run_binStr w h
    · have h2 : (∃ b, op = .eql ∧ eqA P t x y = some b ∧ v = .bool b) ∨ (∃ b, op = .neq ∧ eqA P t x y = some b ∧ v = .bool !b) := by
        unfold binA at h
        split at h
        · exact absurd ⟨_, _, _, _, rfl, rfl⟩ hi
        · exact absurd ⟨_, _, rfl, rfl⟩ hs
        · cases op <;> simp only [] at h <;> first
            | (cases h; done)
            | (simp only [Option.map_eq_some_iff] at h; obtain ⟨b, hb, rfl⟩ := h; first | exact .inl ⟨b, rfl, hb, rfl⟩ | exact .inr ⟨b, rfl, hb, rfl⟩)
      rcases h2 with ⟨b, rfl, hb, rfl⟩ | ⟨b, rfl, hb, rfl⟩ <;>
      · have e := run_eqA w hx hy hb
        cases hx <;> cases hy <;> simp only [eqA, poison] at hb <;> first
          | (cases hb; done)
          | (simp [binOp, e, Result.andThen])

/-- A binary operation, as the machine runs it. -/
theorem run_bin {P : Program} {op : BinOp} {t : TypeId} {M : Mp} {x x' y y' v : Value} (xo yo : Operand) (w : World) (hx : VRel M x x') (hy : VRel M y y') (h : binA P op t x y = some v) :
    (do eqGuard op t xo yo x' y'; binOp op t x' y').run P w = .ok v w ∧ VRel M v v := by
  have hp := binA_plain h
  refine ⟨?_, VRel.cell M hp.2⟩
  have hp' : plainV x' = true := by
    cases hx <;> first | rfl | (simp [plainV] at hp; done) | skip
    simp [binA, poison] at h; cases op <;> simp [eqA] at h
  rw [Sem.run_bind, run_eqGuard op t xo yo w hp']
  exact binA_sound w hx hy h

end Ab
end

section
namespace Ab
open Go
set_option autoImplicit false
set_option linter.unusedVariables false
set_option linter.unusedSimpArgs false

/-! ### Types -/
def tsz (P : Program) (t : TypeId) : Option Nat := (P.info? t).map (·.size)
def tby (P : Program) (t : TypeId) : Option Nat := (P.info? t).map (·.bytes)
def tzero (P : Program) (t : TypeId) : Option Value := (P.info? t).bind (·.zero)

section
variable {P : Program} (w : World)
theorem run_tsz {t : TypeId} {n : Nat} (h : tsz P t = some n) : (Go.sizeOf t).run P w = .ok n w := by
  unfold tsz at h
  simp only [Option.map_eq_some_iff] at h
  obtain ⟨i, hi, rfl⟩ := h
  simp [Go.sizeOf, typeInfo, hi, Result.andThen]
theorem run_tby {t : TypeId} {n : Nat} (h : tby P t = some n) : ∃ i, (typeInfo t).run P w = .ok i w ∧ i.bytes = n := by
  unfold tby at h
  simp only [Option.map_eq_some_iff] at h
  obtain ⟨i, hi, rfl⟩ := h
  exact ⟨i, by simp [typeInfo, hi, Result.andThen], rfl⟩
theorem run_tzero {t : TypeId} {v : Value} (h : tzero P t = some v) : (zeroValue t).run P w = .ok v w := by
  unfold tzero at h
  simp only [Option.bind_eq_some_iff] at h
  obtain ⟨i, hi, hz⟩ := h
  simp [zeroValue, typeInfo, hi, hz, Result.andThen]
def aggB (P : Program) (t : TypeId) : Option Bool :=
  match P.underlying t with
  | some (.struct _) | some (.array _ _) => some true
  | some _ => some false
  | none => none
theorem run_aggB {t : TypeId} {b : Bool} (h : aggB P t = some b) : (isAgg t).run P w = .ok b w := by
  unfold aggB at h
  cases hd : P.underlying t with
  | none => simp [hd] at h
  | some d => cases d <;> simp [hd] at h <;> subst h <;> simp [isAgg, run_underlying hd, Result.andThen]
end

/-! ### Related arrays -/
theorem VRels.get? {M : Mp} {c c' : Array Value} (h : VRels M c c') {j : Nat} {v : Value} (e : c[j]? = some v) : ∃ v', c'[j]? = some v' ∧ VRel M v v' := by
  obtain ⟨hj, rfl⟩ := Array.getElem?_eq_some_iff.1 e
  have hj' : j < c'.size := h.1 ▸ hj
  exact ⟨c'[j], Array.getElem?_eq_getElem hj', h.2 j hj hj'⟩

theorem VRels.extract {M : Mp} {c c' : Array Value} (h : VRels M c c') (i j : Nat) : VRels M (c.extract i j) (c'.extract i j) := by
  refine ⟨by simp [h.1], fun k h1 h2 => ?_⟩
  simp only [Array.size_extract] at h1 h2
  rw [Array.getElem_extract, Array.getElem_extract]
  exact h.2 _ _ _

theorem VRels.single {M : Mp} {v v' : Value} (h : VRel M v v') : VRels M #[v] #[v'] := by
  refine ⟨rfl, fun j h1 h2 => ?_⟩
  have : j = 0 := by simp at h1; omega
  subst this; exact h

theorem VRels.cells {M : Mp} {v v' : Value} (h : VRel M v v') (hp : v ≠ poison) : VRels M v.cells v'.cells := by
  cases h with
  | any v => exact absurd rfl hp
  | agg c c' h1 h2 => exact ⟨h1, h2⟩
  | bool b => exact VRels.single (.bool b)
  | int k n => exact VRels.single (.int k n)
  | string s => exact VRels.single (.string s)
  | nilPtr => exact VRels.single .nilPtr
  | ptr i off b h => exact VRels.single (.ptr i off b h)
  | nilSlice => exact VRels.single .nilSlice
  | slice i off len cap cap' b h h1 h2 => exact VRels.single (.slice i off len cap cap' b h h1 h2)
  | slice0 i off off' cap' b h h1 => exact VRels.single (.slice0 i off off' cap' b h h1)
  | slice00 i off a b h => exact VRels.single (.slice00 i off a b h)
  | nilMap => exact VRels.single .nilMap
  | map i b h => exact VRels.single (.map i b h)
  | nilFunc => exact VRels.single .nilFunc
  | func fn f f' c c' h1 h2 h3 h4 => exact VRels.single (.func fn f f' c c' h1 h2 h3 h4)
  | nilIface => exact VRels.single .nilIface
  | iface t v v' h => exact VRels.single (.iface t v v' h)
  | tuple c c' h1 h2 => exact VRels.single (.tuple c c' h1 h2)

theorem VRels.set {M : Mp} {c c' : Array Value} (h : VRels M c c') (i : Nat) {v v' : Value} (hv : VRel M v v') : VRels M (c.setIfInBounds i v) (c'.setIfInBounds i v') := by
  refine ⟨by simp [h.1], fun j h1 h2 => ?_⟩
  simp only [Array.size_setIfInBounds] at h1 h2
  rw [Array.getElem_setIfInBounds, Array.getElem_setIfInBounds]
  split
  · exact hv
  · exact h.2 j h1 h2

theorem add_eq (i o n : Nat) : (⟨i, o, none⟩ : Addr).add n = ⟨i, o + n, none⟩ := by
  unfold Addr.add
  split
  · rename_i h; subst h; rfl
  · rfl

/-! ### Operations on values alone -/
def unA : UnOp → Value → Option Value
  | .neg, .int k n => some (.int k (k.wrap (0 - n)))
  | .xor, .int k n => some (.int k (k.wrap (BitVec.ofInt k.bits (if k.signed then -1 else k.max) ^^^ BitVec.ofInt k.bits n).toNat))
  | .not, .bool b => some (.bool !b)
  | _, _ => none

theorem unA_sound {P : Program} {op : UnOp} {M : Mp} {x x' v : Value} (w : World) (hx : VRel M x x') (h : unA op x = some v) : (Op.unary op x').run P w = .ok v w ∧ VRel M v v := by
  cases hx <;> cases op <;> simp [unA, poison] at h <;> subst h <;> exact ⟨by simp [Op.unary, Op.intArith, Op.intBits], VRel.cell M rfl⟩

def convP (P : Program) (src dst : TypeId) : Value → Option Value
  | .int _ n => match P.underlying src, P.underlying dst with
    | some _, some (.int k) => some (.int k (k.wrap n))
    | _, _ => none
  | .string s => match P.underlying src, P.underlying dst with
    | some _, some .string => some (.string s)
    | _, _ => none
  | _ => none

theorem convP_sound {P : Program} {src dst : TypeId} {M : Mp} {x x' v : Value} (w : World) (hx : VRel M x x') (h : convP P src dst x = some v) :
    (convert src dst x').run P w = .ok v w ∧ VRel M v v := by
  cases hx <;> simp only [convP, poison] at h <;> first | (cases h; done) | skip
  all_goals
    split at h
    · rename_i d hs hd
      obtain rfl := Option.some.inj h
      refine ⟨?_, VRel.cell M rfl⟩
      unfold convert
      rw [Sem.run_bind, run_underlying hs]
      simp only [Result.andThen]
      rw [Sem.run_bind, run_underlying hd]
      simp only [Result.andThen]
      cases d <;> simp [Conv.intToInt]
    · cases h

def partA (P : Program) (t : TypeId) (cs : Array Value) (off : Nat) : Option Value :=
  match aggB P t with
  | some true => (tsz P t).map fun n => .agg (cs.extract off (off + n))
  | some false => cs[off]?
  | none => none

theorem partA_sound {P : Program} {t : TypeId} {M : Mp} {c c' : Array Value} {off : Nat} {v : Value} (w : World) (hc : VRels M c c') (h : partA P t c off = some v) :
    ∃ v', (part t c' off).run P w = .ok v' w ∧ VRel M v v' := by
  unfold partA at h
  split at h
  · rename_i ha
    simp only [Option.map_eq_some_iff] at h
    obtain ⟨n, hn, rfl⟩ := h
    refine ⟨_, ?_, (hc.extract off (off + n)).agg⟩
    simp [part, run_aggB w ha, run_tsz w hn, Result.andThen]
  · rename_i ha
    obtain ⟨v', hv', hr⟩ := hc.get? h
    refine ⟨v', ?_, hr⟩
    simp [part, run_aggB w ha, hv', Result.andThen]
  · cases h

def fieldP (P : Program) (t : TypeId) (f : Nat) : Value → Option Value
  | .agg cs => match P.underlying t with
    | some (.struct fs) => match fs[f]? with
      | some fld => partA P fld.type cs fld.offset
      | none => none
    | _ => none
  | _ => none

theorem fieldP_sound {P : Program} {t : TypeId} {f : Nat} {M : Mp} {x x' v : Value} (w : World) (hx : VRel M x x') (h : fieldP P t f x = some v) :
    ∃ v', (Instr.field t x' f).run P w = .ok v' w ∧ VRel M v v' := by
  cases hx <;> simp only [fieldP, poison] at h <;> first | (cases h; done) | skip
  rename_i c c' h1 h2
  split at h
  · rename_i fs hd
    split at h
    · rename_i fld hf
      obtain ⟨v', e, hr⟩ := partA_sound w ⟨h1, h2⟩ h
      refine ⟨v', ?_, hr⟩
      unfold Instr.field
      rw [Sem.run_bind, run_underlying hd]
      simp [Result.andThen, hf, asAgg, e]
    · cases h
  · cases h

def extractP (i : Nat) : Value → Option Value
  | .tuple vs => vs[i]?
  | _ => none

theorem extractP_sound {P : Program} {i : Nat} {M : Mp} {x x' v : Value} (w : World) (hx : VRel M x x') (h : extractP i x = some v) :
    ∃ v', (Instr.extract x' i).run P w = .ok v' w ∧ VRel M v v' := by
  cases hx <;> simp only [extractP, poison] at h <;> first | (cases h; done) | skip
  rename_i c c' h1 h2
  obtain ⟨v', e, hr⟩ := VRels.get? ⟨h1, h2⟩ h
  exact ⟨v', by simp [Instr.extract, e], hr⟩

def indexP (P : Program) (t : TypeId) : Value → Value → Option Value
  | .agg cs, .int _ i => match P.underlying t with
    | some (.array len elem) => if 0 ≤ i ∧ i < len then (tsz P elem).bind fun n => partA P elem cs (i.toNat * n) else none
    | _ => none
  | .string s, .int _ i => match P.underlying t with
    | some .string => match (if 0 ≤ i then s[i.toNat]? else none) with
      | some b => some (.int .u8 b.toNat)
      | none => none
    | _ => none
  | _, _ => none

theorem indexP_sound {P : Program} {t : TypeId} {M : Mp} {x x' y y' v : Value} (w : World) (hx : VRel M x x') (hy : VRel M y y') (h : indexP P t x y = some v) :
    ∃ v', (Instr.index t x' y').run P w = .ok v' w ∧ VRel M v v' := by
  cases hx <;> cases hy <;> simp only [indexP, poison] at h <;> first | (cases h; done) | skip
  · split at h
    · rename_i hd
      split at h
      · rename_i b hb
        obtain rfl := Option.some.inj h
        refine ⟨_, ?_, .int _ _⟩
        simp [Instr.index, asIntOf, run_underlying hd, Result.andThen, hb]
      · cases h
    · cases h
  · rename_i c c' h1 h2 k i
    split at h
    · rename_i len elem hd
      split at h
      · rename_i hi
        simp only [Option.bind_eq_some_iff] at h
        obtain ⟨n, hn, hp⟩ := h
        obtain ⟨v', e, hr⟩ := partA_sound w ⟨h1, h2⟩ hp
        refine ⟨v', ?_, hr⟩
        simp [Instr.index, asIntOf, run_underlying hd, Result.andThen, hi, run_tsz w hn, e]
      · cases h
    · cases h

def nilCheckP : Value → Option Value
  | .pointer (some a) => some (.pointer (some a))
  | .slice a n c => some (.slice a n c)
  | .func (.func f) a b => some (.func (.func f) a b)
  | .iface t v => some (.iface t v)
  | .map r => some (.map r)
  | _ => none

theorem nilCheckP_sound {M : Mp} {x x' v : Value} (hx : VRel M x x') (h : nilCheckP x = some v) :
    v = x ∧ ((∃ a, x' = .pointer (some a)) ∨ (∃ a n c, x' = .slice a n c) ∨ (∃ f a b, x' = .func (.func f) a b) ∨ (∃ t u, x' = .iface t u) ∨ ∃ r, x' = .map r) := by
  cases hx <;> simp only [nilCheckP, poison] at h <;> first
    | (cases h; done)
    | (obtain rfl := Option.some.inj h; exact ⟨rfl, by simp⟩)
    | skip
  rename_i fn f f' c c' h1 h2 h3 h4
  cases fn <;> simp only [nilCheckP] at h <;> first
    | (cases h; done)
    | (obtain rfl := Option.some.inj h; exact ⟨rfl, by simp⟩)

def fieldAddrP (P : Program) (s : TypeId) (f : Nat) : Value → Option Value
  | .pointer (some ⟨i, off, none⟩) => match P.underlying s with
    | some (.struct fs) => match fs[f]? with
      | some fld => match tsz P fld.type with
        | some n => if n = 0 then none else some (.pointer (some ⟨i, off + fld.offset, none⟩))
        | none => none
      | none => none
    | _ => none
  | _ => none

theorem fieldAddrP_sound {P : Program} {s : TypeId} {f : Nat} {M : Mp} {x x' v : Value} (w : World) (hx : VRel M x x') (h : fieldAddrP P s f x = some v) :
    ∃ v', (Instr.fieldAt s x' f).run P w = .ok v' w ∧ VRel M v v' := by
  cases hx <;> simp only [fieldAddrP, poison] at h <;> first | (cases h; done) | skip
  rename_i i off b hM
  split at h
  · rename_i fs hd
    split at h
    · rename_i fld hf
      split at h
      · rename_i n hn
        split at h
        · cases h
        · rename_i hn0
          obtain rfl := Option.some.inj h
          refine ⟨_, ?_, .ptr i (off + fld.offset) b hM⟩
          unfold Instr.fieldAt
          rw [Sem.run_bind, run_underlying hd]
          simp [Result.andThen, hf, Instr.sureAddr, fieldPlace, run_tsz w hn, hn0, add_eq, Nat.add_assoc]
      · cases h
    · cases h
  · cases h

def indexAddrP (P : Program) (t : TypeId) : Value → Value → Option Value
  | .pointer (some ⟨b, off, none⟩), .int _ i => match P.underlying t with
    | some (.array len elem) => if 0 ≤ i ∧ i < len then (tsz P elem).map fun n => .pointer (some ⟨b, off + i.toNat * n, none⟩) else none
    | _ => none
  | .slice (some ⟨b, off, none⟩) len _, .int _ i => match P.underlying t with
    | some (.slice elem) => if 0 ≤ i ∧ i < len then (tsz P elem).map fun n => .pointer (some ⟨b, off + i.toNat * n, none⟩) else none
    | _ => none
  | _, _ => none

theorem indexAddrP_sound {P : Program} {t : TypeId} {M : Mp} {x x' y y' v : Value} (w : World) (hx : VRel M x x') (hy : VRel M y y') (h : indexAddrP P t x y = some v) :
    ∃ v', (Instr.indexAt t x' y').run P w = .ok v' w ∧ VRel M v v' := by
  cases hx <;> cases hy <;> simp only [indexAddrP, poison] at h <;> first | (cases h; done) | (exfalso; split at h <;> (try split at h) <;> first | (cases h; done) | omega) | skip
  · rename_i i off b hM k n
    split at h
    · rename_i len elem hd
      split at h
      · rename_i hi
        simp only [Option.map_eq_some_iff] at h
        obtain ⟨m, hm, rfl⟩ := h
        refine ⟨_, ?_, .ptr i (off + n.toNat * m) b hM⟩
        simp [Instr.indexAt, asIntOf, run_underlying hd, Instr.sureAddr, Result.andThen, hi, run_tsz w hm, add_eq, Nat.add_assoc]
      · cases h
    · cases h
  · rename_i i off len cap cap' b hM h1 h2 k n
    split at h
    · rename_i elem hd
      split at h
      · rename_i hi
        simp only [Option.map_eq_some_iff] at h
        obtain ⟨m, hm, rfl⟩ := h
        refine ⟨_, ?_, .ptr i (off + n.toNat * m) b hM⟩
        simp [Instr.indexAt, asIntOf, run_underlying hd, Instr.sureAddr, Result.andThen, hi, run_tsz w hm, add_eq, Nat.add_assoc]
      · cases h
    · cases h

end Ab
end

section
namespace Ab
open Go
set_option autoImplicit false
set_option linter.unusedVariables false
set_option linter.unusedSimpArgs false

def _root_.Go.Value.known : Value → Bool
  | .complex _ _ _ => false
  | _ => true

def AHeap.set (h : AHeap) (i : Nat) (o : AObj) : AHeap := { h with obj := fun j => if j = i then some o else h.obj j }
def AHeap.push (h : AHeap) (o : AObj) : AHeap := { obj := fun j => if j = h.next then some o else h.obj j, next := h.next + 1, base := h.base }
def AHeap.kill (h : AHeap) (i : Nat) : AHeap := { h with obj := fun j => if j = i then none else h.obj j }
def upd (M : Mp) (i : Nat) (b : Blk) : Mp := fun j => if j = i then some b else M j

theorem MapRel.mono {M M' : Mp} (hM : M.le M') {es es' : Array MapEntry} (h : MapRel M es es') : MapRel M' es es' :=
  ⟨h.1, fun j h1 h2 => ⟨(h.2 j h1 h2).1, (h.2 j h1 h2).2.1, (h.2 j h1 h2).2.2.mono hM⟩⟩

theorem ObjRel.mono {M M' : Mp} {b : Blk} {w w' : World} {o : AObj} (hM : M.le M') (e : w'.heap[b.blk]? = w.heap[b.blk]?) (h : ObjRel M b w o) : ObjRel M' b w' o := by
  cases o with
  | row c elem esz tight ro =>
    obtain ⟨cc, lo, hi, h1, h2, h3, h4, h5, h6, h7⟩ := h
    refine ⟨cc, lo, hi, e.trans h1, h2, h3, h4, h5, h6, fun j v hj => ?_⟩
    obtain ⟨vc, hv, hr⟩ := h7 j v hj
    exact ⟨vc, hv, hr.mono hM⟩
  | other o =>
    cases o <;> first
      | exact h.elim
      | (obtain ⟨h0, es', h1, h2⟩ := h; exact ⟨h0, es', e.trans h1, h2.mono hM⟩)
      | (obtain ⟨es', h1, h2⟩ := h; exact ⟨es', e.trans h1, h2.mono hM⟩)
      | exact ⟨h.1, e.trans h.2⟩

theorem upd_le {M : Mp} {i : Nat} {b : Blk} (h : M i = none) : M.le (upd M i b) := fun j c hj => by
  unfold upd; split
  · rename_i e; subst e; rw [h] at hj; cases hj
  · exact hj

/-- A new block. -/
theorem Rel.alloc {M : Mp} {h : AHeap} {w : World} (r : Rel M h w) {o : AObj} {co : Obj} {sz esz : Nat} {op : Bool}
    (hb : ObjRel (upd M h.next ⟨w.heap.size, 0, sz, esz, op⟩) ⟨w.heap.size, 0, sz, esz, op⟩ { w with heap := w.heap.push co } o) :
    Rel (upd M h.next ⟨w.heap.size, 0, sz, esz, op⟩) (h.push o) { w with heap := w.heap.push co } ∧
    Post M h w (upd M h.next ⟨w.heap.size, 0, sz, esz, op⟩) (h.push o) { w with heap := w.heap.push co } := by
  have hn : M h.next = none := r.fresh _ (Nat.le_refl _)
  have hle := upd_le (b := ⟨w.heap.size, 0, sz, esz, op⟩) hn
  have hold : ∀ k, k < w.heap.size → (w.heap.push co)[k]? = w.heap[k]? := fun k hk => by rw [Array.getElem?_push, if_neg (by omega)]
  constructor
  · constructor
    · intro i o' b ho hM
      simp only [AHeap.push] at ho
      by_cases e : i = h.next
      · subst e
        rw [if_pos rfl] at ho
        obtain rfl := Option.some.inj ho
        simp only [upd, if_pos] at hM
        obtain rfl := Option.some.inj hM
        exact hb
      · rw [if_neg e] at ho
        simp only [upd, if_neg e] at hM
        exact (r.live i o' b ho hM).mono hle (hold _ (r.inb i b hM))
    · intro i j b b' hi hj hMi hMj e
      simp only [AHeap.push] at hi hj
      simp only [upd] at hMi hMj
      by_cases ei : i = h.next <;> by_cases ej : j = h.next
      · rw [ei, ej]
      · rw [if_pos ei] at hMi; rw [if_neg ej] at hMj
        obtain rfl := Option.some.inj hMi
        have := r.inb j b' hMj; simp only [] at e; omega
      · rw [if_neg ei] at hMi; rw [if_pos ej] at hMj
        obtain rfl := Option.some.inj hMj
        have := r.inb i b hMi; simp only [] at e; omega
      · rw [if_neg ei] at hMi hi; rw [if_neg ej] at hMj hj
        exact r.inj i j b b' hi hj hMi hMj e
    · intro i hi
      simp only [AHeap.push] at hi
      simp only [upd, if_neg (show ¬ i = h.next by omega)]
      exact r.fresh i (by omega)
    · intro i hi
      obtain ⟨b, h1, h2⟩ := r.glob i hi
      exact ⟨b, hle _ _ h1, h2⟩
    · intro i b hM
      simp only [upd] at hM
      split at hM
      · obtain rfl := Option.some.inj hM; simp
      · have := r.inb i b hM; simp; omega
    · exact Nat.le_trans r.ble (Nat.le_succ _)
    · intro i hi
      simp only [AHeap.push] at hi ⊢
      rw [if_neg (by omega)]
      exact r.bnd i (by omega)
    · intro i o' hi ho'
      have hb : i < h.base := hi
      have hble := r.ble
      simp only [AHeap.push] at ho'
      rw [if_neg (by omega)] at ho'
      exact r.oldro i o' hb ho'
    · intro i b hi hM
      simp only [upd] at hM
      split at hM
      · obtain rfl := Option.some.inj hM; exact r.bsz
      · exact r.nb i b hi hM
    · intro i b hM ho
      simp only [upd] at hM
      split at hM
      · obtain rfl := Option.some.inj hM; rfl
      · exact r.b0 i b hM ho
  · constructor
    · exact hle
    · intro i hi hm
      simp only [upd, if_neg (show ¬ i = h.next by omega)]; exact hm
    · exact Nat.le_succ _
    · rfl
    · simp
    · rfl
    · rfl
    · rfl
    · exact fun k hk _ => hold k hk
    · exact fun k hk => hold k (Nat.lt_of_lt_of_le hk r.bsz)
    · intro i b hi hM
      simp only [upd] at hM
      simp only [AHeap.push] at hi
      split at hM
      · obtain rfl := Option.some.inj hM; exact .inl (Nat.le_refl _)
      · rename_i e; rw [if_neg e] at hi; exact .inr ⟨i, b, hi, hM, rfl⟩

theorem Rel.cell {M : Mp} {h : AHeap} {w : World} (r : Rel M h w) {i off : Nat} {c : List Value} {e : TypeId} {sz : Nat} {ti ro : Bool} {b : Blk} {v : Value}
    (ho : h.obj i = some (.row c e sz ti ro)) (hM : M i = some b) (hv : c[off]? = some v) : ∃ vc, w.cell? ⟨b.blk, b.base + off, none⟩ = some vc ∧ VRel M v vc := by
  obtain ⟨cc, lo, hi, h1, h2, h3, h4, h5, h6, h7⟩ := r.live i _ b ho hM
  obtain ⟨vc, hvc, hr⟩ := h7 off v hv
  exact ⟨vc, by simp [World.cell?, h1, hvc], hr⟩

theorem Rel.unfrozen {M : Mp} {h : AHeap} {w : World} (r : Rel M h w) {i off : Nat} {c : List Value} {e : TypeId} {sz : Nat} {ti : Bool} {b : Blk}
    (ho : h.obj i = some (.row c e sz ti false)) (hM : M i = some b) (hv : off < c.length) : w.frozen? ⟨b.blk, b.base + off, none⟩ = false := by
  obtain ⟨cc, lo, hi, h1, h2, h3, h4, h5, h6, h7⟩ := r.live i _ b ho hM
  have := h6 rfl
  simp only [World.frozen?, h1]
  simp only [Bool.and_eq_false_imp, decide_eq_true_eq, decide_eq_false_iff_not]
  intro hl hh; omega

/-- A store into a cell. -/
theorem Rel.setCell {M : Mp} {h : AHeap} {w : World} (r : Rel M h w) {i off : Nat} {c : List Value} {e : TypeId} {sz : Nat} {ti : Bool} {b : Blk} {v vc : Value}
    (ho : h.obj i = some (.row c e sz ti false)) (hM : M i = some b) (hoff : off < c.length) (hv : VRel M v vc) :
    Rel M (h.set i (.row (c.set off v) e sz ti false)) (w.setCell ⟨b.blk, b.base + off, none⟩ vc) ∧ Post M h w M (h.set i (.row (c.set off v) e sz ti false)) (w.setCell ⟨b.blk, b.base + off, none⟩ vc) := by
  obtain ⟨cc, lo, hi, h1, h2, h3, h4, h5, h6, h7⟩ := r.live i _ b ho hM
  have hoth : ∀ k, k ≠ b.blk → (w.setCell ⟨b.blk, b.base + off, none⟩ vc).heap[k]? = w.heap[k]? := fun k hk => by
    simp only [World.setCell, Array.getElem?_modify]; rw [if_neg (fun e => hk e.symm)]
  have hhere : (w.setCell ⟨b.blk, b.base + off, none⟩ vc).heap[b.blk]? = some (.cells (cc.setIfInBounds (b.base + off) vc) e (lo, hi)) := by
    simp [World.setCell, Array.getElem?_modify, h1]
  have hsz : (w.setCell ⟨b.blk, b.base + off, none⟩ vc).heap.size = w.heap.size := by simp [World.setCell]
  have hsome : ∀ j, ((h.set i (.row (c.set off v) e sz ti false)).obj j).isSome ↔ (h.obj j).isSome := fun j => by
    simp only [AHeap.set]; split
    · rename_i e; subst e; simp [ho]
    · rfl
  constructor
  · constructor
    · intro j o b' hj hMj
      simp only [AHeap.set] at hj
      by_cases ej : j = i
      · subst ej
        rw [if_pos rfl] at hj
        obtain rfl := Option.some.inj hj
        rw [hM] at hMj; obtain rfl := Option.some.inj hMj
        refine ⟨cc.setIfInBounds (b.base + off) vc, lo, hi, hhere, by simpa using h2, by simpa using h3, h4, h5, fun hr => by simpa using h6 hr, ?_⟩
        intro k u hk
        by_cases ek : k = off
        · subst ek
          rw [List.getElem?_set_self hoff] at hk
          obtain rfl := Option.some.inj hk
          refine ⟨vc, ?_, hv⟩
          rw [Array.getElem?_setIfInBounds_self_of_lt (by omega)]
        · rw [List.getElem?_set_ne (by omega)] at hk
          obtain ⟨u', hu, hr⟩ := h7 k u hk
          exact ⟨u', by rw [Array.getElem?_setIfInBounds_ne (by omega)]; exact hu, hr⟩
      · rw [if_neg ej] at hj
        refine (r.live j o b' hj hMj).mono .rfl (hoth _ ?_)
        intro e'
        exact ej (r.inj j i b' b (by simp [hj]) (by simp [ho]) hMj hM e')
    · exact fun j k b1 b2 hj hk => r.inj j k b1 b2 ((hsome j).1 hj) ((hsome k).1 hk)
    · exact r.fresh
    · exact r.glob
    · exact fun j b1 hj => by rw [hsz]; exact r.inb j b1 hj
    · exact r.ble
    · intro j hj
      have hb := r.bnd j hj
      simp only [AHeap.set]
      rw [if_neg (by rintro rfl; rw [ho] at hb; cases hb)]
      exact hb
    · intro j o hj hjo
      have hi := r.notOld ho
      have hj' : j < h.base := hj
      simp only [AHeap.set] at hjo
      rw [if_neg (by omega)] at hjo
      exact r.oldro j o hj' hjo
    · exact r.nb
    · exact r.b0
  · constructor
    · exact .rfl
    · exact fun _ _ h => h
    · exact Nat.le_refl _
    · rfl
    · rw [hsz]; exact Nat.le_refl _
    · rfl
    · rfl
    · rfl
    · exact fun k hk hu => hoth k (fun e' => hu i b (by simp [ho]) hM e'.symm)
    · exact fun k hk => hoth k (by have := r.nb i b (r.notOld ho) hM; omega)
    · exact fun j b1 hj hMj => .inr ⟨j, b1, (hsome j).1 hj, hMj, rfl⟩

/-! ### Reading -/
def loadR (P : Program) (h : AHeap) (t : TypeId) : Value → Option Value
  | .pointer (some ⟨i, off, none⟩) => match h.obj i with
    | some (.row c _ _ _ _) => match aggB P t with
      | some false => c[off]?
      | some true => (tsz P t).bind fun n => if off + n ≤ c.length then some (.agg ((c.drop off).take n).toArray) else none
      | none => none
    | _ => none
  | _ => none

/-- The cells of a piece of a row. -/
theorem Rel.cells {P : Program} {M : Mp} {h : AHeap} {w : World} (r : Rel M h w) {i off n : Nat} {c : List Value} {e : TypeId} {sz : Nat} {ti ro : Bool} {b : Blk}
    (ho : h.obj i = some (.row c e sz ti ro)) (hM : M i = some b) (hoff : off + n ≤ c.length) :
    ∃ cs : Array Value, (loadCells ⟨b.blk, b.base + off, none⟩ n).run P w = .ok cs w ∧ VRels M ((c.drop off).take n).toArray cs := by
  obtain ⟨cc, lo, hi, h1, h2, h3, h4, h5, h6, h7⟩ := r.live i _ b ho hM
  refine ⟨_, run_loadCells w ⟨b.blk, b.base + off, none⟩ n (fun j => cc.getD (b.base + off + j) undef) ?_, ?_, ?_⟩
  · intro j hj
    rw [add_eq]
    have hlt : b.base + off + j < cc.size := by omega
    simp [World.cell?, h1, Array.getD, hlt]
  · simp; omega
  · intro j hj hj'
    simp only [List.size_toArray, List.length_take, List.length_drop] at hj
    have hj2 : j < n := by omega
    have hjc : off + j < c.length := by omega
    obtain ⟨vc, hv, hr⟩ := h7 (off + j) c[off + j] (List.getElem?_eq_getElem hjc)
    have e1 : ((c.drop off).take n).toArray[j] = c[off + j] := by simp
    rw [e1]
    have hlt : b.base + (off + j) < cc.size := by omega
    simp only [List.getElem_toArray, List.getElem_map, List.getElem_range]
    have e2 : cc.getD (b.base + off + j) undef = vc := by
      rw [Array.getD_eq_getD_getElem?, show b.base + off + j = b.base + (off + j) by omega, hv]; rfl
    rw [e2]; exact hr

theorem loadR_sound {P : Program} {t : TypeId} {M : Mp} {h : AHeap} {w : World} {x x' v : Value} (r : Rel M h w) (hx : VRel M x x') (hl : loadR P h t x = some v) :
    ∃ v', (Instr.loadAt t x').run P w = .ok v' w ∧ VRel M v v' := by
  cases hx <;> simp only [loadR, poison] at hl <;> first | (cases hl; done) | skip
  rename_i i off b hM
  split at hl
  · rename_i c e sz ti ro ho
    split at hl
    · rename_i ha
      obtain ⟨vc, hc, hr⟩ := r.cell ho hM hl
      exact ⟨vc, by simp [Instr.loadAt, Instr.sureAddr, loadVar, run_aggB w ha, hc, Result.andThen], hr⟩
    · rename_i ha
      simp only [Option.bind_eq_some_iff] at hl
      obtain ⟨n, hn, hl⟩ := hl
      split at hl
      · rename_i hoff
        obtain rfl := Option.some.inj hl
        obtain ⟨cs, hcs, hr⟩ := r.cells (P := P) ho hM hoff
        exact ⟨_, by simp [Instr.loadAt, Instr.sureAddr, loadVar, run_aggB w ha, run_tsz w hn, hcs, Result.andThen], hr.agg⟩
      · cases hl
    · cases hl
  · cases hl

/-! ### Writing -/
def setL (c : List Value) (off : Nat) : List Value → List Value
  | [] => c
  | v :: vs => setL (c.set off v) (off + 1) vs

theorem setL_length : ∀ (vs c : List Value) (off : Nat), (setL c off vs).length = c.length
  | [], _, _ => rfl
  | v :: vs, c, off => by simp [setL, setL_length vs]

theorem run_storeCells {P : Program} {M : Mp} {i : Nat} {e : TypeId} {sz : Nat} {ti : Bool} {b : Blk} (hM : M i = some b) :
    ∀ (vs vcs : List Value) (off k : Nat) (c : List Value) (h : AHeap) (w : World), Rel M h w → h.obj i = some (.row c e sz ti false) → off + k + vs.length ≤ c.length →
      VRels M vs.toArray vcs.toArray → (∀ v ∈ vs, v.oneCell' = true) → (∀ v ∈ vs, v ≠ poison) →
      ∃ w', (storeCells ⟨b.blk, b.base + off, none⟩ vcs k).run P w = .ok () w' ∧ Rel M (h.set i (.row (setL c (off + k) vs) e sz ti false)) w' ∧ Post M h w M (h.set i (.row (setL c (off + k) vs) e sz ti false)) w' := by
  intro vs
  induction vs with
  | nil =>
    intro vcs off k c h w r ho hl hr _ _
    obtain rfl : vcs = [] := by have := hr.1; simp at this; exact List.length_eq_zero_iff.1 this.symm
    have e1 : h.set i (.row (setL c (off + k) []) e sz ti false) = h := by
      unfold AHeap.set; cases h; simp only [setL]; congr 1; funext j; split
      · rename_i ej; subst ej; exact ho.symm
      · rfl
    rw [e1]
    exact ⟨w, rfl, r, Post.refl _ _ _⟩
  | cons v vs ih =>
    intro vcs off k c h w r ho hl hr h1 hp
    cases vcs with
    | nil => have := hr.1; simp at this
    | cons vc vcs =>
      have hv : VRel M v vc := hr.2 0 (by simp) (by simp)
      have hr' : VRels M vs.toArray vcs.toArray := by
        refine ⟨by have := hr.1; simpa using this, fun j a b => ?_⟩
        have := hr.2 (j + 1) (by simpa using a) (by simpa using b)
        simpa using this
      have hoff : off + k < c.length := by simp at hl; omega
      obtain ⟨v0, hc0, _⟩ := r.cell ho hM (List.getElem?_eq_getElem hoff)
      have hf := r.unfrozen ho hM hoff
      obtain ⟨r1, p1⟩ := r.setCell ho hM hoff hv
      have hone : vc.oneCell' = true := by
        have := h1 v (by simp); have hq := hp v (by simp)
        cases hv <;> first | rfl | (simp [Value.oneCell'] at this; done) | exact absurd rfl hq
      obtain ⟨w', hw', r2, p2⟩ := ih vcs off (k + 1) (c.set (off + k) v) _ _ r1 (by simp [AHeap.set]) (by simp at hl ⊢; omega) hr' (fun u hu => h1 u (by simp [hu])) (fun u hu => hp u (by simp [hu]))
      have e2 : (h.set i (.row (c.set (off + k) v) e sz ti false)).set i (.row (setL (c.set (off + k) v) (off + (k + 1)) vs) e sz ti false) = h.set i (.row (setL c (off + k) (v :: vs)) e sz ti false) := by
        unfold AHeap.set; simp only [setL]; congr 1; funext j; split <;> rfl
      rw [e2] at r2 p2
      refine ⟨w', ?_, r2, p1.trans p2⟩
      unfold storeCells
      rw [Sem.run_bind, run_store P w _ _ _ hone, add_eq]
      rw [Nat.add_assoc, hc0]
      simp only [hf, Result.andThen, Bool.false_eq_true, if_false]
      exact hw'

/-- A value that is known, and lies in one cell. -/
def okCell (u : Value) : Bool := u.oneCell' && u.known
def storeW (P : Program) (h : AHeap) (t : TypeId) (x v : Value) : Option AHeap :=
  match x with
  | .pointer (some ⟨i, off, none⟩) => match h.obj i with
    | some (.row c e sz ti false) =>
      if tsz P t = some v.cells.size ∧ off + v.cells.size ≤ c.length ∧ v.cells.toList.all okCell = true ∧ v.known = true then
        some (h.set i (.row (setL c off v.cells.toList) e sz ti false))
      else none
    | _ => none
  | _ => none

theorem storeW_sound {P : Program} {t : TypeId} {M : Mp} {h h' : AHeap} {w : World} {x x' v v' : Value} (r : Rel M h w) (hx : VRel M x x') (hv : VRel M v v') (hs : storeW P h t x v = some h') :
    ∃ w', (Instr.storeAt t x' v').run P w = .ok () w' ∧ Rel M h' w' ∧ Post M h w M h' w' := by
  cases hx <;> simp only [storeW, poison] at hs <;> first | (cases hs; done) | skip
  rename_i i off b hM
  split at hs
  · rename_i c e sz ti ho
    split at hs
    · rename_i hcond
      obtain ⟨ht, hl, ha, hq⟩ := hcond
      obtain rfl := Option.some.inj hs
      have hnp : v ≠ poison := by rintro rfl; simp [poison, Value.known] at hq
      have hcells := VRels.cells hv hnp
      rw [List.all_eq_true] at ha
      obtain ⟨w', hw', r', p'⟩ := run_storeCells (P := P) hM v.cells.toList v'.cells.toList off 0 c h w r ho (by simpa using hl) (by simpa using hcells)
        (fun u hu => by have := ha u hu; simp [okCell] at this; exact this.1) (fun u hu => by rintro rfl; have := ha _ hu; simp [okCell, Value.known, poison] at this)
      refine ⟨w', ?_, r', p'⟩
      have hsz : v'.cells.size = v.cells.size := hcells.1.symm
      unfold Instr.storeAt
      simp only [Sem.run_bind, Instr.sureAddr, Sem.run_pure, Result.andThen]
      unfold storeVar
      simp only [Sem.run_bind, run_tsz w ht, Result.andThen, hsz, ne_eq, not_true_eq_false, if_false, Sem.run_pure, Sem.run_ite]
      exact hw'
    · cases hs
  · cases hs
end Ab
end

section
namespace Ab
open Go
set_option autoImplicit false
set_option linter.unusedVariables false
set_option linter.unusedSimpArgs false

theorem upd_self (M : Mp) (i : Nat) (b : Blk) : upd M i b i = some b := by simp [upd]

/-- An operation that makes one new object, and does nothing else: whatever number `id` the object is to have. -/
def AllocOk (P : Program) (M : Mp) (w : World) (id : Nat) (x : Sem Value) (v : Value) (o : AObj) : Prop :=
  ∃ (vc : Value) (w1 : World) (co : Obj) (sz esz : Nat) (op : Bool), x.run P w = .ok vc ({ w1 with heap := w.heap.push co } : World) ∧ w1.heap = w.heap ∧ w1.os = w.os ∧ w1.tape = w.tape ∧ w1.output = w.output ∧
    ∀ M', M.le M' → M' id = some ⟨w.heap.size, 0, sz, esz, op⟩ → VRel M' v vc ∧ ObjRel M' ⟨w.heap.size, 0, sz, esz, op⟩ ({ w1 with heap := w.heap.push co } : World) o

/-- A new row of cells, known whole. -/
theorem AllocOk.row {P : Program} {M : Mp} {w : World} {id : Nat} {x : Sem Value} {v vc : Value} {cs ccs : Array Value} {e : TypeId} {sz : Nat} (hc : VRels M cs ccs)
    (hx : x.run P w = .ok vc { w with heap := w.heap.push (.cells ccs e) }) (hv : ∀ M' : Mp, M' id = some ⟨w.heap.size, 0, ccs.size, sz, false⟩ → VRel M' v vc) : AllocOk P M w id x v (.row cs.toList e sz true false) := by
  refine ⟨vc, w, _, ccs.size, sz, false, hx, rfl, rfl, rfl, rfl, fun M' hle hid => ⟨hv M' hid, ?_⟩⟩
  refine ⟨ccs, 0, 0, by simp, by simp, by simp [hc.1], rfl, (fun _ => rfl), (fun _ => .inl rfl), fun j v hj => ?_⟩
  simp only [Array.getElem?_toList] at hj
  obtain ⟨v', e1, hr⟩ := hc.get? hj
  exact ⟨v', by simpa using e1, hr.mono hle⟩

/-! ### New variables -/
theorem known_ne {v : Value} (h : v.known = true) : v ≠ poison := by rintro rfl; simp [poison, Value.known] at h

/-- A new variable that holds a value. -/
def boxA (id : Nat) (e : TypeId) (v : Value) : Option (Value × AObj) :=
  if v.known then some (.pointer (some ⟨id, 0, none⟩), .row v.cells.toList e v.cells.size true false) else none

theorem boxA_sound {P : Program} {M : Mp} {w : World} {id : Nat} {e : TypeId} {v v' u : Value} {o : AObj} (hv : VRel M v v') (hs : boxA id e v = some (u, o)) : AllocOk P M w id (Instr.box e v') u o := by
  unfold boxA at hs
  split at hs
  · rename_i hk
    simp only [Option.some.injEq, Prod.mk.injEq] at hs
    obtain ⟨rfl, rfl⟩ := hs
    exact AllocOk.row (VRels.cells hv (known_ne hk)) (by simp [Instr.box, newVar, newRow, Result.andThen]) (fun M' h => .ptr id 0 _ h)
  · cases hs

def allocA (P : Program) (id : Nat) (e : TypeId) : Option (Value × AObj) :=
  match tzero P e with
  | some z => if constOk z then boxA id e z else none
  | none => none

theorem allocA_sound {P : Program} {M : Mp} {w : World} {id : Nat} {e : TypeId} {u : Value} {o : AObj} (hs : allocA P id e = some (u, o)) : AllocOk P M w id (Instr.alloc e true (.tuple #[])) u o := by
  unfold allocA at hs
  split at hs
  · rename_i z hz
    split at hs
    · rename_i hc
      obtain ⟨vc, w1, co, sz, esz, op, h1, h2⟩ := boxA_sound (P := P) (M := M) (w := w) (VRel.const M hc) hs
      refine ⟨vc, w1, co, sz, esz, op, ?_, h2⟩
      unfold Instr.alloc
      rw [Sem.run_bind, run_tzero w hz]
      simpa [Result.andThen, Instr.box] using h1
    · cases hs
  · cases hs

/-! ### Structs, arrays and slices out of their parts -/
theorem VRels.foldl_set {M : Mp} (off : Nat) : ∀ (l l' : List Value) (k : Nat) (c c' : Array Value), VRels M c c' → l.length = l'.length → (∀ j (a : j < l.length) (b : j < l'.length), VRel M l[j] l'[j]) →
    VRels M ((l.zipIdx k).foldl (fun cs p => cs.setIfInBounds (off + p.2) p.1) c) ((l'.zipIdx k).foldl (fun cs p => cs.setIfInBounds (off + p.2) p.1) c')
  | [], [], _, _, _, h, _, _ => h
  | [], _ :: _, _, _, _, _, h, _ => by simp at h
  | _ :: _, [], _, _, _, _, h, _ => by simp at h
  | v :: l, v' :: l', k, c, c', h, hl, hr => by
    simp only [List.zipIdx_cons, List.foldl_cons]
    refine VRels.foldl_set off l l' (k + 1) _ _ (h.set (off + k) (hr 0 (by simp) (by simp))) (by simpa using hl) fun j a b => ?_
    have := hr (j + 1) (by simpa using a) (by simpa using b)
    simpa using this

inductive PRels (M : Mp) : List (Nat × Value) → List (Nat × Value) → Prop
  | nil : PRels M [] []
  | cons (i : Nat) (v v' : Value) (l l' : List (Nat × Value)) : VRel M v v' → v.known = true → PRels M l l' → PRels M ((i, v) :: l) ((i, v') :: l')

theorem fill_sound {M : Mp} (place : Nat → Option (Nat × Nat)) {l l' : List (Nat × Value)} (hl : PRels M l l') :
    ∀ {c c' r : Array Value}, VRels M c c' → Instr.fill place c l = some r → ∃ r', Instr.fill place c' l' = some r' ∧ VRels M r r' := by
  induction hl with
  | nil => intro c c' r hc h; simp only [Instr.fill, Option.some.injEq] at h; subst h; exact ⟨c', rfl, hc⟩
  | cons i v v' l l' hv hk _ ih =>
    intro c c' r hc h
    have hcs := VRels.cells hv (known_ne hk)
    unfold Instr.fill at h ⊢
    split at h
    · cases h
    · rename_i off size hp
      simp only [hp]
      split at h
      · cases h
      · rename_i hcond
        rw [← hcs.1, ← hc.1, if_neg hcond]
        refine ih ?_ h
        have := VRels.foldl_set (M := M) off v.cells.toList v'.cells.toList 0 c c' hc (by simpa using hcs.1) (fun j a b => by simpa using hcs.2 j (by simpa using a) (by simpa using b))
        simpa [← Array.toList_zipIdx, Array.foldl_toList] using this

def buildP (P : Program) (t : TypeId) (parts : List (Nat × Value)) : Option Value :=
  match tzero P t with
  | some z => if constOk z && parts.all (fun p => p.2.known) then
      match P.underlying t with
      | some (.struct fs) => if fs.toList.all (fun f => (tsz P f.type).isSome) then
          (Instr.fill (fun i => (fs[i]?).map fun f => (f.offset, (tsz P f.type).getD 0)) z.cells parts).map .agg else none
      | some (.array _ e) => (tsz P e).bind fun n => (Instr.fill (fun i => some (i * n, n)) z.cells parts).map .agg
      | _ => none
    else none
  | none => none

theorem run_places {P : Program} (w : World) : ∀ (fs : List Field), fs.all (fun f => (tsz P f.type).isSome) = true →
    (fs.mapM (m := Sem) fun f => do pure (f.offset, ← Go.sizeOf f.type)).run P w = .ok (fs.map fun f => (f.offset, (tsz P f.type).getD 0)) w
  | [], _ => rfl
  | f :: fs, h => by
    simp only [List.all_cons, Bool.and_eq_true] at h
    obtain ⟨n, hn⟩ := Option.isSome_iff_exists.1 h.1
    rw [List.mapM_cons]
    simp only [Sem.run_bind, run_tsz w hn, Result.andThen, Sem.run_pure, run_places w fs h.2, hn, List.map_cons, Option.getD_some]

theorem buildP_sound {P : Program} {t : TypeId} {M : Mp} {l l' : List (Nat × Value)} {v : Value} (w : World) (hl : PRels M l l') (h : buildP P t l = some v) :
    ∃ v', (Instr.build t l'.toArray).run P w = .ok v' w ∧ VRel M v v' := by
  unfold buildP at h
  split at h
  · rename_i z hz
    split at h
    · rename_i hk
      simp only [Bool.and_eq_true] at hk
      have hzk : z ≠ poison := by rintro rfl; simp [constOk, constCell, poison] at hk
      have hzr := VRels.cells (VRel.const M hk.1) hzk
      split at h
      · rename_i fs hd
        split at h
        · rename_i hall
          simp only [Option.map_eq_some_iff] at h
          obtain ⟨r, hr, rfl⟩ := h
          obtain ⟨r', hr', hrr⟩ := fill_sound _ hl hzr hr
          refine ⟨.agg r', ?_, hrr.agg⟩
          unfold Instr.build
          rw [Sem.run_bind, run_tzero w hz]
          simp only [Result.andThen]
          rw [Sem.run_bind, run_underlying hd]
          simp only [Result.andThen]
          rw [Sem.run_bind]
          have e1 : (fs.mapM (m := Sem) fun f => do pure (f.offset, ← Go.sizeOf f.type)).run P w = .ok ((fs.toList.map fun f => (f.offset, (tsz P f.type).getD 0)).toArray) w := by
            rw [Array.mapM_eq_mapM_toList, Sem.run_map, run_places w _ hall]; rfl
          rw [e1]
          simp only [Result.andThen]
          have e2 : (fun (i : Nat) => (fs.toList.map fun (f : Field) => (f.offset, (tsz P f.type).getD 0)).toArray[i]?) = fun i => (fs[i]?).map fun (f : Field) => (f.offset, (tsz P f.type).getD 0) := by
            funext i; simp
          rw [e2, hr']
          rfl
        · cases h
      · rename_i n e hd
        simp only [Option.bind_eq_some_iff, Option.map_eq_some_iff] at h
        obtain ⟨m, hm, r, hr, rfl⟩ := h
        obtain ⟨r', hr', hrr⟩ := fill_sound _ hl hzr hr
        refine ⟨.agg r', ?_, hrr.agg⟩
        unfold Instr.build
        rw [Sem.run_bind, run_tzero w hz]
        simp only [Result.andThen]
        rw [Sem.run_bind, run_underlying hd]
        simp only [Result.andThen]
        rw [Sem.run_bind, run_tsz w hm]
        simp only [Result.andThen, hr']
        rfl
      · cases h
    · cases h
  · cases h

theorem VRels.refl {M : Mp} {c : Array Value} (h : c.toList.all constCell = true) : VRels M c c := by
  rw [List.all_eq_true] at h
  exact ⟨rfl, fun j h1 _ => VRel.cell M (h _ (by simp))⟩

/-- The cells of a number of zero values. -/
def zeros (z : Array Value) (n : Nat) : Array Value := (Array.range n).map (z[· % z.size]!)

theorem zeros_const {z : Array Value} (hz : z.toList.all constCell = true) {n : Nat} (hs : z.size ≠ 0 ∨ n = 0) : (zeros z n).toList.all constCell = true := by
  rw [List.all_eq_true] at hz ⊢
  intro v hv
  simp only [zeros, Array.mem_toList_iff, Array.mem_map, Array.mem_range] at hv
  obtain ⟨i, hi, rfl⟩ := hv
  have h0 : z.size ≠ 0 := by rcases hs with h | h; exact h; omega
  have hlt : i % z.size < z.size := Nat.mod_lt _ (by omega)
  rw [getElem!_pos z _ hlt]
  exact hz _ (by simp)

theorem zeros_size (z : Array Value) (n : Nat) : (zeros z n).size = n := by simp [zeros]

theorem fill_size (place : Nat → Option (Nat × Nat)) : ∀ (l : List (Nat × Value)) {c r : Array Value}, Instr.fill place c l = some r → r.size = c.size
  | [], c, r, h => by simp only [Instr.fill, Option.some.injEq] at h; rw [h]
  | (i, v) :: l, c, r, h => by
    unfold Instr.fill at h
    split at h
    · cases h
    · split at h
      · cases h
      · rw [fill_size place l h]
        rename_i off size _ _
        have : ∀ (l : List (Value × Nat)) (c : Array Value), (l.foldl (fun cs p => cs.setIfInBounds (off + p.2) p.1) c).size = c.size := by
          intro l; induction l with
          | nil => intro c; rfl
          | cons p l ih => intro c; simp only [List.foldl_cons]; rw [ih]; simp
        rw [← Array.foldl_toList]
        exact this _ _

def buildSliceA (P : Program) (id : Nat) (t : TypeId) (len : Nat) (parts : List (Nat × Value)) : Option (Value × AObj) :=
  match P.underlying t with
  | some (.slice e) => match tsz P e, tzero P e with
    | some n, some z =>
      if n ≠ 0 ∧ z.cells.size ≠ 0 ∧ len * n ≤ 16777216 ∧ z.cells.toList.all constCell = true then
        (Instr.fill (fun i => some (i * n, n)) (zeros z.cells (len * n)) parts).map fun cs => (.slice (some ⟨id, 0, none⟩) len len, .row cs.toList e n true false)
      else none
    | _, _ => none
  | _ => none

theorem buildSliceA_sound {P : Program} {M : Mp} {w : World} {id : Nat} {t : TypeId} {len : Nat} {l l' : List (Nat × Value)} {u : Value} {o : AObj} (hl : PRels M l l')
    (hs : buildSliceA P id t len l = some (u, o)) : AllocOk P M w id (Instr.buildSlice t len l'.toArray) u o := by
  unfold buildSliceA at hs
  split at hs
  · rename_i e hd
    split at hs
    · rename_i n z hn hz
      split at hs
      · rename_i hc
        obtain ⟨h0, hz0, hlen, hall⟩ := hc
        simp only [Option.map_eq_some_iff, Prod.mk.injEq] at hs
        obtain ⟨cs, hf, rfl, rfl⟩ := hs
        obtain ⟨cs', hf', hr⟩ := fill_sound (M := M) (fun i => some (i * n, n)) hl (VRels.refl (zeros_const (n := len * n) hall (.inl hz0))) hf
        refine AllocOk.row (vc := .slice (some ⟨w.heap.size, 0, none⟩) len len) hr ?_ (fun M' h => .slice id 0 len len len _ h (Nat.le_refl _) (.inl rfl))
        unfold Instr.buildSlice
        rw [Sem.run_bind, run_underlying hd]
        simp only [Result.andThen]
        rw [Sem.run_bind, run_tsz w hn]
        simp only [Result.andThen]
        have hne : ¬ (len * n > 2 ^ 24) := by omega
        simp only [hne, if_false]
        by_cases hz2 : len * n = 0
        · simp only [Sem.run_bind, Sem.run_ite, hz2, if_true, Sem.run_pure, Result.andThen]
          have e3 : zeros z.cells (len * n) = #[] := by simp [hz2, zeros]
          rw [e3] at hf'
          have e4 : Array.range 0 = #[] := rfl
          simp only [e4, List.map_toArray, List.map_nil, Array.map_empty, hf', newRow, Sem.run_bind, run_newObj, Result.andThen, Sem.run_pure, Nat.add_zero]
        · simp only [Sem.run_bind, Sem.run_ite, hz2, if_false, Sem.run_pure, Result.andThen, run_tzero w hz]
          have e3 : (Array.range (len * n)).map (z.cells[· % z.cells.size]!) = zeros z.cells (len * n) := rfl
          simp only [e3, hf', newRow, Sem.run_bind, run_newObj, Result.andThen, Sem.run_pure, Nat.add_zero]
      · cases hs
    · cases hs
  · cases hs

end Ab
end

section
namespace Ab
open Go
set_option autoImplicit false
set_option linter.unusedVariables false
set_option linter.unusedSimpArgs false

/-! ### Pieces of slices, arrays and texts -/
def sb (y : Nat) : Value → Option Nat
  | .int _ i => if 0 ≤ i ∧ i ≤ y then some i.toNat else none
  | _ => none

def bnds (len cap : Nat) (lo hi mx : Option Value) : Option (Nat × Nat × Nat) :=
  (match mx with | some v => sb cap v | none => some cap).bind fun m =>
  (match hi, mx with | some v, _ => sb m v | none, none => some len | none, some _ => none).bind fun h =>
  (match lo with | some v => sb h v | none => some 0).bind fun l => some (l, h, m)

inductive ORel (M : Mp) : Option Value → Option Value → Prop
  | none : ORel M none none
  | some (v v' : Value) : VRel M v v' → ORel M (some v) (some v')

theorem run_sb {P : Program} {M : Mp} {v v' : Value} {y y' n : Nat} (w : World) (code : BoundsCode) (hv : VRel M v v') (h : sb y v = some n) (hy : y ≤ y') :
    (Instr.sliceBound v' y' code).run P w = .ok n w ∧ n ≤ y := by
  cases hv <;> simp only [sb, poison] at h <;> first | (cases h; done) | skip
  split at h
  · rename_i k i hi
    obtain rfl := Option.some.inj h
    refine ⟨?_, by omega⟩
    have : 0 ≤ i ∧ i ≤ (y' : Int) := by omega
    simp [Instr.sliceBound, asIntOf, Result.andThen, this]
  · cases h

theorem run_bnds {P : Program} {M : Mp} {b : Bool} {len cap cap' l h m : Nat} {lo hi mx lo' hi' mx' : Option Value} (w : World) (h1 : ORel M lo lo') (h2 : ORel M hi hi') (h3 : ORel M mx mx')
    (hc : cap ≤ cap') (hl : len ≤ cap) (e : bnds len cap lo hi mx = some (l, h, m)) :
    (Instr.sliceBounds b len cap' lo' hi' mx').run P w = .ok (l, h, if mx.isNone then cap' else m) w ∧ l ≤ h ∧ h ≤ m ∧ m ≤ cap ∧ (mx.isNone = true → m = cap) := by
  unfold bnds at e
  simp only [Option.bind_eq_some_iff, Option.some.injEq, Prod.mk.injEq] at e
  obtain ⟨m', em, h', eh, l', el, rfl, rfl, rfl⟩ := e
  unfold Instr.sliceBounds
  cases h3 with
  | none =>
    simp only [Option.some.injEq] at em
    subst em
    cases h2 with
    | none =>
      simp only [Option.some.injEq] at eh
      subst eh
      cases h1 with
      | none => simp only [Option.some.injEq] at el; subst el; exact ⟨by simp [Result.andThen], by omega, by omega, by omega, fun _ => rfl⟩
      | some v v' hv =>
        obtain ⟨e1, e2⟩ := run_sb (P := P) w .sliceB hv el (Nat.le_refl _)
        exact ⟨by simp [Result.andThen, e1], e2, by omega, by omega, fun _ => rfl⟩
    | some u u' hu =>
      have eh1 := run_sb (P := P) w (if b = true then .sliceAcap else .sliceAlen) hu eh hc
      cases h1 with
      | none => simp only [Option.some.injEq] at el; subst el; exact ⟨by simp [Result.andThen, eh1.1], by omega, by omega, by omega, fun _ => rfl⟩
      | some v v' hv =>
        obtain ⟨e1, e2⟩ := run_sb (P := P) w .sliceB hv el (Nat.le_refl _)
        exact ⟨by simp [Result.andThen, eh1.1, e1], e2, by omega, by omega, fun _ => rfl⟩
  | some x x' hx =>
    have em1 := run_sb (P := P) w (if b = true then .slice3Acap else .slice3Alen) hx em hc
    cases h2 with
    | none => cases eh
    | some u u' hu =>
      have eh1 := run_sb (P := P) w .slice3B hu eh (Nat.le_refl _)
      cases h1 with
      | none => simp only [Option.some.injEq] at el; subst el; exact ⟨by simp [Result.andThen, em1.1, eh1.1], by omega, by omega, by omega, fun h => by simp at h⟩
      | some v v' hv =>
        obtain ⟨e1, e2⟩ := run_sb (P := P) w .slice3C hv el (Nat.le_refl _)
        exact ⟨by simp [Result.andThen, em1.1, eh1.1, e1], e2, by omega, by omega, fun h => by simp at h⟩

def arrSlice (P : Program) (n : Nat) (elem : TypeId) (i off : Nat) (lo hi mx : Option Value) : Option Value :=
  match tsz P elem, bnds n n lo hi mx with
  | some sz, some (l, h, m) => some (.slice (some ⟨i, if m = l then off else off + l * sz, none⟩) (h - l) (m - l))
  | _, _ => none

/-- Pieces: `h` is asked for the elements' size of a slice's row. -/
def sliceR (P : Program) (h : AHeap) (t : TypeId) (x : Value) (lo hi mx : Option Value) : Option Value :=
  match x with
  | .string s => match P.underlying t with
    | some .string => if mx.isSome then none else (bnds s.size s.size lo hi none).map fun p => .string (s.extract p.1 p.2.1)
    | _ => none
  | .slice none _ _ => match P.underlying t with
    | some (.slice e) => match tsz P e, bnds 0 0 lo hi mx with
      | some _, some _ => some (.slice none 0 0)
      | _, _ => none
    | _ => none
  | .slice (some ⟨i, off, none⟩) len cap => match P.underlying t with
    | some (.slice e) => match tsz P e, h.obj i with
      | some sz, some (.row _ _ esz ti _) => if ti = true ∨ sz = esz then
          match bnds len cap lo hi mx with
          | some (l, hh, m) => some (if m = l then .slice (some ⟨i, off, none⟩) 0 0 else .slice (some ⟨i, off + l * sz, none⟩) (hh - l) (m - l))
          | none => none
        else none
      | _, _ => none
    | _ => none
  | .pointer (some ⟨i, off, none⟩) => match P.underlying t with
    | some (.array n e) => arrSlice P n e i off lo hi mx
    | some (.pointer a) => match P.underlying a with
      | some (.array n e) => arrSlice P n e i off lo hi mx
      | _ => none
    | _ => none
  | _ => none

theorem arrSlice_sound {P : Program} {M : Mp} {w : World} {n : Nat} {elem : TypeId} {i off : Nat} {b : Blk} {lo hi mx lo' hi' mx' : Option Value} {v : Value} (hM : M i = some b)
    (h1 : ORel M lo lo') (h2 : ORel M hi hi') (h3 : ORel M mx mx') (h : arrSlice P n elem i off lo hi mx = some v) :
    ∃ v', (do let (l, h, m) ← Instr.sliceBounds false n n lo' hi' mx'
              let size ← Go.sizeOf elem
              pure (Value.slice (some (if m = l then (⟨b.blk, b.base + off, none⟩ : Addr) else (⟨b.blk, b.base + off, none⟩ : Addr).add (l * size))) (h - l) (m - l))).run P w = .ok v' w ∧ VRel M v v' := by
  unfold arrSlice at h
  split at h
  · rename_i sz l hh m hsz hb
    obtain rfl := Option.some.inj h
    obtain ⟨e1, e2, e3, e4, e5⟩ := run_bnds (P := P) (b := false) w h1 h2 h3 (Nat.le_refl _) (Nat.le_refl _) hb
    have em : (if mx.isNone then n else m) = m := by split; exact (e5 ‹_›).symm; rfl
    rw [em] at e1
    refine ⟨_, by simp only [Sem.run_bind, e1, Result.andThen, run_tsz w hsz, Sem.run_pure, add_eq]; rfl, ?_⟩
    have e6 : (if m = l then (⟨b.blk, b.base + off, none⟩ : Addr) else ⟨b.blk, b.base + off + l * sz, none⟩) = ⟨b.blk, b.base + (if m = l then off else off + l * sz), none⟩ := by
      split <;> simp [Nat.add_assoc]
    rw [e6]
    exact .slice i _ (hh - l) (m - l) (m - l) b hM (by omega) (.inl rfl)
  · cases h

theorem sliceR_sound {P : Program} {t : TypeId} {M : Mp} {h : AHeap} {w : World} {x x' v : Value} {lo hi mx lo' hi' mx' : Option Value} (r : Rel M h w) (hx : VRel M x x')
    (h1 : ORel M lo lo') (h2 : ORel M hi hi') (h3 : ORel M mx mx') (hs : sliceR P h t x lo hi mx = some v) :
    ∃ v', (Instr.sliceAt t x' lo' hi' mx').run P w = .ok v' w ∧ VRel M v v' := by
  cases hx <;> simp only [sliceR, poison] at hs <;> first | (cases hs; done) | skip
  case string s =>
    split at hs
    · rename_i hd
      split at hs
      · cases hs
      · rename_i hm
        simp only [Option.map_eq_some_iff] at hs
        obtain ⟨⟨l, hh, m⟩, hb, rfl⟩ := hs
        have hmx : mx = none := by cases mx <;> simp at hm ⊢
        subst hmx
        cases h3
        obtain ⟨e1, _⟩ := run_bnds (P := P) (b := false) w h1 h2 .none (Nat.le_refl _) (Nat.le_refl _) hb
        refine ⟨_, ?_, .string _⟩
        unfold Instr.sliceAt
        rw [Sem.run_bind, run_underlying hd]
        simp only [Result.andThen]
        unfold Instr.slice
        rw [Sem.run_bind, run_underlying hd]
        simp [Result.andThen, e1]
    · cases hs
  case ptr i off b hM =>
    split at hs
    · rename_i n e hd
      obtain ⟨v', e1, hr⟩ := arrSlice_sound (P := P) (w := w) hM h1 h2 h3 hs
      refine ⟨v', ?_, hr⟩
      unfold Instr.sliceAt
      rw [Sem.run_bind, run_underlying hd]
      simp only [Result.andThen, Instr.sureAddr]
      exact e1
    · rename_i a hd
      split at hs
      · rename_i n e hd2
        obtain ⟨v', e1, hr⟩ := arrSlice_sound (P := P) (w := w) hM h1 h2 h3 hs
        refine ⟨v', ?_, hr⟩
        unfold Instr.sliceAt
        rw [Sem.run_bind, run_underlying hd]
        simp only [Result.andThen]
        unfold Instr.slice
        rw [Sem.run_bind, run_underlying hd]
        simp only [Result.andThen, asAddr]
        rw [Sem.run_bind, Sem.run_pure]
        simp only [Result.andThen]
        rw [Sem.run_bind, run_underlying hd2]
        simp only [Result.andThen]
        exact e1
      · cases hs
    · cases hs
  case nilSlice =>
    split at hs
    · rename_i e hd
      split at hs
      · rename_i sz p hsz hb
        obtain rfl := Option.some.inj hs
        obtain ⟨l, hh, m⟩ := p
        obtain ⟨e1, e2, e3, e4, e5⟩ := run_bnds (P := P) (b := true) w h1 h2 h3 (Nat.le_refl 0) (Nat.le_refl 0) hb
        have hm : m = 0 := by omega
        have hl : l = 0 := by omega
        have hhh : hh = 0 := by omega
        subst hm hl hhh
        refine ⟨_, ?_, .nilSlice⟩
        unfold Instr.sliceAt
        rw [Sem.run_bind, run_underlying hd]
        simp only [Result.andThen]
        unfold Instr.slice
        rw [Sem.run_bind, run_underlying hd]
        simp [Result.andThen, e1, run_tsz w hsz]
      · cases hs
    · cases hs
  case slice i off len cap cap' b hM hlc hcap =>
    split at hs
    · rename_i e hd
      split at hs
      · rename_i sz c el esz ti ro hsz ho
        split at hs
        · rename_i hse
          split at hs
          · rename_i l hh m hb
            obtain rfl := Option.some.inj hs
            obtain ⟨cc, _, _, _, _, _, hbe, htb, _⟩ := r.live i _ b ho hM
            have hesz : b.opn = true → b.esz = sz := fun ho => by
              rcases hse with h | h
              · rw [htb h] at ho; cases ho
              · rw [hbe, h]
            have hcc : cap ≤ cap' := by rcases hcap with h | h; omega; exact h.2.1
            obtain ⟨e1, e2, e3, e4, e5⟩ := run_bnds (P := P) (b := true) w h1 h2 h3 hcc hlc hb
            have hrun : (Instr.sliceAt t (.slice (some ⟨b.blk, b.base + off, none⟩) len cap') lo' hi' mx').run P w =
                .ok (.slice (some (if (if mx.isNone then cap' else m) = l then (⟨b.blk, b.base + off, none⟩ : Addr) else ⟨b.blk, b.base + off + l * sz, none⟩)) (hh - l) ((if mx.isNone then cap' else m) - l)) w := by
              unfold Instr.sliceAt
              rw [Sem.run_bind, run_underlying hd]
              simp only [Result.andThen]
              unfold Instr.slice
              rw [Sem.run_bind, run_underlying hd]
              simp only [Result.andThen]
              rw [Sem.run_bind, e1]
              simp only [Result.andThen]
              rw [Sem.run_bind, run_tsz w hsz]
              simp only [Result.andThen, Option.map_some, add_eq, Sem.run_pure]
              congr 2
              exact (apply_ite some _ _ _).symm
            refine ⟨_, hrun, ?_⟩
            generalize hm' : (if mx.isNone then cap' else m) = m'
            have hmm : m ≤ m' := by subst hm'; split; have := e5 ‹_›; omega; omega
            have hopen : m' = m ∨ (b.opn = true ∧ off + m' * sz ≤ b.size) := by
              subst hm'
              split
              · rcases hcap with h | h
                · have := e5 ‹_›; left; omega
                · right; have := hesz h.1; rw [this] at h; exact ⟨h.1, h.2.2⟩
              · exact .inl rfl
            have hmul : ∀ a, l ≤ a → l * sz + (a - l) * sz = a * sz := fun a ha => by rw [← Nat.add_mul]; congr 1; omega
            split
            · rename_i hml
              have hh0 : hh - l = 0 := by omega
              rw [hh0]
              by_cases hml' : m' = l
              · rw [if_pos hml']
                exact .slice0 i off off (m' - l) b hM (.inl (by omega))
              · rw [if_neg hml', Nat.add_assoc]
                refine .slice0 i off (off + l * sz) (m' - l) b hM ?_
                rcases hopen with h | h
                · exact absurd (h.trans hml) hml'
                · right; refine ⟨h.1, ?_⟩; rw [hesz h.1, Nat.add_assoc, hmul m' (by omega)]; exact h.2
            · rename_i hml
              rw [if_neg (by omega), Nat.add_assoc]
              refine .slice i (off + l * sz) (hh - l) (m - l) (m' - l) b hM (by omega) ?_
              rcases hopen with h | h
              · left; rw [h]
              · right; refine ⟨h.1, by omega, ?_⟩; rw [hesz h.1, Nat.add_assoc, hmul m' (by omega)]; exact h.2
          · cases hs
        · cases hs
      · cases hs
    · cases hs
  case slice00 i off a b hM =>
    split at hs
    · rename_i e hd
      split at hs
      · rename_i sz c el esz ti ro hsz ho
        split at hs
        · split at hs
          · rename_i l hh m hb
            obtain rfl := Option.some.inj hs
            obtain ⟨e1, e2, e3, e4, e5⟩ := run_bnds (P := P) (b := true) w h1 h2 h3 (Nat.le_refl 0) (Nat.le_refl 0) hb
            have hm : m = 0 := by omega
            have hl : l = 0 := by omega
            have hhh : hh = 0 := by omega
            subst hm hl hhh
            rw [if_pos rfl]
            refine ⟨.slice (some a) 0 0, ?_, .slice00 i off a b hM⟩
            unfold Instr.sliceAt
            rw [Sem.run_bind, run_underlying hd]
            simp only [Result.andThen]
            unfold Instr.slice
            rw [Sem.run_bind, run_underlying hd]
            simp only [Result.andThen]
            rw [Sem.run_bind, e1]
            simp only [Result.andThen]
            rw [Sem.run_bind, run_tsz w hsz]
            simp [Result.andThen, Addr.add]
          · cases hs
        · cases hs
      · cases hs
    · cases hs
  case slice0 i off off' cap' b hM hcap =>
    split at hs
    · rename_i e hd
      split at hs
      · rename_i sz c el esz ti ro hsz ho
        split at hs
        · split at hs
          · rename_i l hh m hb
            obtain rfl := Option.some.inj hs
            obtain ⟨e1, e2, e3, e4, e5⟩ := run_bnds (P := P) (b := true) w h1 h2 h3 (Nat.zero_le cap') (Nat.le_refl 0) hb
            have hm : m = 0 := by omega
            have hl : l = 0 := by omega
            have hhh : hh = 0 := by omega
            subst hm hl hhh
            rw [if_pos rfl]
            refine ⟨.slice (some ⟨b.blk, b.base + off', none⟩) 0 (if mx.isNone then cap' else 0), ?_, ?_⟩
            · unfold Instr.sliceAt
              rw [Sem.run_bind, run_underlying hd]
              simp only [Result.andThen]
              unfold Instr.slice
              rw [Sem.run_bind, run_underlying hd]
              simp only [Result.andThen]
              rw [Sem.run_bind, e1]
              simp only [Result.andThen]
              rw [Sem.run_bind, run_tsz w hsz]
              simp [Result.andThen, add_eq]
            · refine .slice0 i off off' _ b hM ?_
              split
              · exact hcap
              · exact .inl rfl
          · cases hs
        · cases hs
      · cases hs
    · cases hs
end Ab
end

section
namespace Ab
open Go
set_option autoImplicit false
set_option linter.unusedVariables false
set_option linter.unusedSimpArgs false

/-! ### Bytes and texts -/
/-- A byte as a cell. -/
def B (u : UInt8) : Value := .int .u8 u.toNat

def bytesOf : List Value → Option (List UInt8)
  | [] => some []
  | .int .u8 n :: l => (bytesOf l).map (UInt8.ofNat n.toNat :: ·)
  | _ => none

theorem bytesOf_map (l : List UInt8) : bytesOf (l.map B) = some l := by
  induction l with
  | nil => rfl
  | cons u l ih => simp [B, bytesOf] at ih ⊢; exact ih

theorem bytesOf_nums : ∀ {l : List Value} {bs : List UInt8}, bytesOf l = some bs → ∃ ns : List Int, l = ns.map (Value.int .u8) ∧ bs = ns.map fun n => UInt8.ofNat n.toNat
  | [], bs, h => by simp [bytesOf] at h; exact ⟨[], rfl, h⟩
  | v :: l, bs, h => by
    unfold bytesOf at h
    split at h
    · rename_i e; cases e
    · rename_i n l' e
      cases e
      simp only [Option.map_eq_some_iff] at h
      obtain ⟨bs', hb, rfl⟩ := h
      obtain ⟨ns, rfl, rfl⟩ := bytesOf_nums hb
      exact ⟨n :: ns, rfl, rfl⟩
    · cases h

/-- From bytes to a text. -/
def strR (P : Program) (h : AHeap) (src dst : TypeId) : Value → Option Value
  | .slice none _ _ => match P.underlying src, P.underlying dst with
    | some (.slice e), some .string => match P.underlying e with
      | some (.int .u8) => some (.string .empty)
      | _ => none
    | _, _ => none
  | .slice (some ⟨i, off, none⟩) len _ => match P.underlying src, P.underlying dst with
    | some (.slice e), some .string => match P.underlying e with
      | some (.int .u8) => match h.obj i with
        | some (.row c _ _ _ _) => if off + len ≤ c.length then (bytesOf ((c.drop off).take len)).map fun bs => .string ⟨bs.toArray⟩ else none
        | _ => none
      | _ => none
    | _, _ => none
  | _ => none

theorem VRels.nums {M : Mp} {ns : List Int} {cs : Array Value} (h : VRels M (ns.map (Value.int .u8)).toArray cs) : cs = (ns.map (Value.int .u8)).toArray := by
  apply Array.ext
  · exact h.1.symm
  · intro j h1 h2
    have := h.2 j h2 h1
    generalize hq : cs[j] = q at this
    simp only [List.getElem_toArray, List.getElem_map] at this ⊢
    cases this; rfl

theorem strR_sound {P : Program} {M : Mp} {h : AHeap} {w : World} {src dst : TypeId} {x x' v : Value} (r : Rel M h w) (hx : VRel M x x') (hs : strR P h src dst x = some v) :
    (convert src dst x').run P w = .ok v w ∧ VRel M v v := by
  cases hx <;> simp only [strR, poison] at hs <;> first | (cases hs; done) | skip
  case nilSlice =>
    split at hs
    · rename_i e hd hd2
      split at hs
      · rename_i he
        obtain rfl := Option.some.inj hs
        exact ⟨run_convert_bytes_nil w src e hd he 0 0 dst hd2, .string _⟩
      · cases hs
    · cases hs
  case slice i off len cap cap' b hM _ _ =>
    split at hs
    · rename_i e hd hd2
      split at hs
      · rename_i he
        split at hs
        · rename_i c el sz ti ro ho
          split at hs
          · rename_i hoff
            simp only [Option.map_eq_some_iff] at hs
            obtain ⟨bs, hb, rfl⟩ := hs
            obtain ⟨ns, hns, rfl⟩ := bytesOf_nums hb
            obtain ⟨cs, hcs, hr⟩ := r.cells (P := P) ho hM hoff
            rw [hns] at hr
            rw [VRels.nums hr] at hcs
            refine ⟨?_, .string _⟩
            rw [run_convert_bytes_string w src dst e _ len cap' hd he hd2, run_bytesToString w _ len cap' ns hcs, foldl_push_bytes, show ByteArray.empty.data = #[] from rfl, Array.empty_append]
          · cases hs
        · cases hs
      · cases hs
    · cases hs
  case slice00 i off a b hM =>
    split at hs
    · rename_i e hd hd2
      split at hs
      · rename_i he
        have hv : v = .string .empty := by
          split at hs
          · split at hs
            · simp [bytesOf] at hs; rw [← hs]; rfl
            · cases hs
          · cases hs
        subst hv
        refine ⟨?_, .string _⟩
        rw [run_convert_bytes_string w src dst e _ 0 0 hd he hd2]
        simp [Conv.bytesToString, loadCells, loadCellsFrom]
      · cases hs
    · cases hs
  case slice0 i off off' cap' b hM _ =>
    split at hs
    · rename_i e hd hd2
      split at hs
      · rename_i he
        have hv : v = .string .empty := by
          split at hs
          · split at hs
            · simp [bytesOf] at hs; rw [← hs]; rfl
            · cases hs
          · cases hs
        subst hv
        refine ⟨?_, .string _⟩
        rw [run_convert_bytes_string w src dst e _ 0 cap' hd he hd2]
        simp [Conv.bytesToString, loadCells, loadCellsFrom]
      · cases hs
    · cases hs

/-- From a text to bytes: a new row, of which no more is known than the bytes. -/
def bytesA (P : Program) (id : Nat) (src dst : TypeId) : Value → Option (Value × AObj)
  | .string s => match P.underlying src, P.underlying dst with
    | some _, some (.slice e) => match P.underlying e with
      | some (.int .u8) => some (.slice (some ⟨id, 0, none⟩) s.size s.size, .row (s.data.toList.map B) e 1 false false)
      | _ => none
    | _, _ => none
  | _ => none

theorem bytesA_sound {P : Program} {M : Mp} {w : World} {id : Nat} {src dst : TypeId} {x x' u : Value} {o : AObj} (hx : VRel M x x') (hs : bytesA P id src dst x = some (u, o)) : AllocOk P M w id (convert src dst x') u o := by
  cases hx <;> simp only [bytesA, poison] at hs <;> first | (cases hs; done) | skip
  rename_i s
  split at hs
  · rename_i d e hd hd2
    split at hs
    · rename_i he
      simp only [Option.some.injEq, Prod.mk.injEq] at hs
      obtain ⟨rfl, rfl⟩ := hs
      have hrun := Lib.run_convert_string_bytes w src dst e s hd hd2 he
      let cc := Lib.bytesCells w e s
      have hg : s.size ≤ grownCap w s.size 0 e := by unfold grownCap Question.cut; exact Nat.le_add_right _ _
      have hcc : cc.size = grownCap w s.size 0 e := by
        show (Lib.bytesCells w e s).size = _
        unfold Lib.bytesCells
        simp only [Array.size_append, Array.size_map, Array.size_replicate]
        have : s.data.size = s.size := rfl
        omega
      let w1 : World := { Lib.bytesWorld w e s with heap := w.heap }
      have hheap : (Lib.bytesWorld w e s).heap = w.heap.push (.cells cc e (cc.size, cc.size + 1)) := by
        apply Array.ext_getElem?
        intro j
        by_cases hj : j < w.heap.size
        · rw [Lib.bytesWorld_at_old w e s j hj, Array.getElem?_push, if_neg (by omega)]
        · by_cases hj2 : j = w.heap.size
          · subst hj2; rw [Lib.bytesWorld_at_new]; simp [cc]
          · rw [Array.getElem?_eq_none (by rw [Lib.bytesWorld_size]; omega), Array.getElem?_eq_none (by simp; omega)]
      have hw2 : ({ w1 with heap := w.heap.push (.cells cc e (cc.size, cc.size + 1)) } : World) = Lib.bytesWorld w e s := by
        show ({ Lib.bytesWorld w e s with heap := w.heap.push (.cells cc e (cc.size, cc.size + 1)) } : World) = _
        rw [← hheap]
      refine ⟨_, w1, .cells cc e (cc.size, cc.size + 1), cc.size, 1, true, by rw [hw2]; exact hrun, rfl, rfl, rfl, rfl, fun M' hle hid => ⟨?_, ?_⟩⟩
      · refine .slice id 0 s.size s.size (grownCap w s.size 0 e) _ hid (Nat.le_refl _) ?_
        right
        refine ⟨rfl, hg, ?_⟩
        show 0 + grownCap w s.size 0 e * 1 ≤ cc.size
        rw [hcc]; omega
      · refine ⟨cc, cc.size, cc.size + 1, Array.getElem?_push_size, by simp, ?_, rfl, (fun h => by simp at h), (fun _ => .inr (Nat.le_refl _)), fun j v hj => ?_⟩
        · simp only [List.length_map, Array.length_toList]; rw [hcc]; exact hg
        · simp only [List.getElem?_map, Option.map_eq_some_iff] at hj
          obtain ⟨b, hb, rfl⟩ := hj
          refine ⟨B b, ?_, .int _ _⟩
          have hlt : j < s.data.size := by
            have := (List.getElem?_eq_some_iff.1 hb).1; simpa using this
          simp only [Nat.zero_add]
          show (Lib.bytesCells w e s)[j]? = _
          unfold Lib.bytesCells
          rw [Array.getElem?_append_left (by simpa using hlt)]
          simp only [Array.getElem?_map, Option.map_eq_some_iff]
          exact ⟨b, by simpa using hb, rfl⟩
    · cases hs
  · cases hs
end Ab
end

section
namespace Ab
open Go
set_option autoImplicit false
set_option linter.unusedVariables false
set_option linter.unusedSimpArgs false

/-! ### append -/
/-- The elements that a slice or a text holds, as cells. -/
def srcCells (h : AHeap) (sz : Nat) : Value → Option (Nat × List Value)
  | .slice none _ _ => some (0, [])
  | .slice (some ⟨i, off, none⟩) len _ => match h.obj i with
    | some (.row c _ _ _ _) => if off + len * sz ≤ c.length then some (len, (c.drop off).take (len * sz)) else none
    | _ => if len = 0 then some (0, []) else none
  | .string s => if sz = 1 then some (s.size, s.data.toList.map B) else none
  | _ => none

theorem srcCells_sound {P : Program} {M : Mp} {h : AHeap} {w : World} {sz n : Nat} {l : List Value} {x x' : Value} (r : Rel M h w) (hx : VRel M x x') (hs : srcCells h sz x = some (n, l)) :
    ∃ cs : Array Value, (Builtin.lenOf x').run P w = .ok n w ∧ (Builtin.firstCells sz n x').run P w = .ok cs w ∧ VRels M l.toArray cs ∧ l.length = n * sz := by
  cases hx <;> simp only [srcCells, poison] at hs <;> first | (cases hs; done) | skip
  case string s =>
    split at hs
    · rename_i h1
      subst h1
      simp only [Option.some.injEq, Prod.mk.injEq] at hs
      obtain ⟨rfl, rfl⟩ := hs
      refine ⟨s.data.map fun b => .int .u8 b.toNat, rfl, ?_, ?_, by rw [Nat.mul_one, List.length_map, Array.length_toList]; rfl⟩
      · simp only [Builtin.firstCells, Sem.run_pure]
        congr 2
        exact congrArg ByteArray.data (ByteArray.extract_zero_size (b := s))
      · refine ⟨by simp, fun j h1 h2 => ?_⟩
        simp only [List.getElem_toArray, List.getElem_map, Array.getElem_map, Array.getElem_toList]
        exact .int _ _
    · cases hs
  case nilSlice =>
    simp only [Option.some.injEq, Prod.mk.injEq] at hs
    obtain ⟨rfl, rfl⟩ := hs
    exact ⟨#[], rfl, rfl, ⟨rfl, fun j h1 h2 => absurd h1 (by simp)⟩, by simp⟩
  case slice i off len cap cap' b hM h1 h2 =>
    split at hs
    · rename_i c e esz ti ro ho
      split at hs
      · rename_i hoff
        simp only [Option.some.injEq, Prod.mk.injEq] at hs
        obtain ⟨rfl, rfl⟩ := hs
        obtain ⟨cs, hcs, hr⟩ := r.cells (P := P) ho hM hoff
        exact ⟨cs, rfl, hcs, hr, by simp; omega⟩
      · cases hs
    · split at hs
      · rename_i hl
        subst hl
        simp only [Option.some.injEq, Prod.mk.injEq] at hs
        obtain ⟨rfl, rfl⟩ := hs
        exact ⟨#[], rfl, by simp [Builtin.firstCells, loadCells, loadCellsFrom], ⟨rfl, fun j h1 h2 => absurd h1 (by simp)⟩, by simp⟩
      · cases hs
  case slice00 i off a b hM =>
    have hz : n = 0 ∧ l = [] := by
      split at hs
      · split at hs
        · simp only [Option.some.injEq, Prod.mk.injEq] at hs
          obtain ⟨rfl, rfl⟩ := hs
          simp
        · cases hs
      · simp only [if_true, Option.some.injEq, Prod.mk.injEq] at hs
        exact ⟨hs.1.symm, hs.2.symm⟩
    obtain ⟨rfl, rfl⟩ := hz
    exact ⟨#[], rfl, by simp [Builtin.firstCells, loadCells, loadCellsFrom], ⟨rfl, fun j h1 h2 => absurd h1 (by simp)⟩, by simp⟩
  case slice0 i off off' cap' b hM h1 =>
    have hz : n = 0 ∧ l = [] := by
      split at hs
      · split at hs
        · simp only [Option.some.injEq, Prod.mk.injEq] at hs
          obtain ⟨rfl, rfl⟩ := hs
          simp
        · cases hs
      · simp only [if_true, Option.some.injEq, Prod.mk.injEq] at hs
        exact ⟨hs.1.symm, hs.2.symm⟩
    obtain ⟨rfl, rfl⟩ := hz
    exact ⟨#[], rfl, by simp [Builtin.firstCells, loadCells, loadCellsFrom], ⟨rfl, fun j h1 h2 => absurd h1 (by simp)⟩, by simp⟩

/-- Is the second operand's type none of numbers (that form is 'append of make')? -/
def noInt (P : Program) (t : TypeId) : Bool :=
  match P.underlying t with
  | some (.slice _) | some .string => true
  | _ => false

theorem run_append_room' {P : Program} {w w' : World} {t xt ty e : TypeId} {sz n sLen sCap : Nat} {base : Option Addr} {x : Value} {news : Array Value} (ht : P.underlying t = some (.slice e)) (hx : noInt P xt = true) (hsz : tsz P e = some sz)
    (hl : (Builtin.lenOf x).run P w = .ok n w) (hf : (Builtin.firstCells sz n x).run P w = .ok news w) (hroom : sLen + n ≤ sCap)
    (hst : (match base with | some a => storeCells (a.add (sLen * sz)) news.toList | none => pure ()).run P w = .ok () w') :
    (Builtin.append_ #[t, xt] ty #[.slice base sLen sCap, x]).run P w = .ok (.slice base (sLen + n) sCap) w' := by
  have hxt : (∃ d, P.underlying xt = some (.slice d)) ∨ P.underlying xt = some .string := by
    unfold noInt at hx
    split at hx
    · rename_i d hd; exact .inl ⟨d, hd⟩
    · rename_i hd; exact .inr hd
    · cases hx
  unfold Builtin.append_
  simp only [Array.getElem?_eq_getElem, List.size_toArray, List.length_cons, List.length_nil, Nat.zero_lt_succ, Nat.lt_add_one, List.getElem_toArray, List.getElem_cons_zero, List.getElem_cons_succ, Nat.reduceLT, Nat.zero_add, Nat.reduceAdd]
  rcases hxt with ⟨d, hd⟩ | hd <;>
  · simp only [Sem.run_bind, run_underlying ht, Result.andThen, run_tsz w hsz, run_underlying hd, Sem.run_pure]
    simp only [Bool.false_eq_true, if_false, hl, hroom, if_true, Bool.not_false, Sem.run_bind, hf, Result.andThen]
    cases base with
    | none =>
      simp only [Sem.run_pure] at hst ⊢
      injection hst with h1 h2
      rw [h2]
    | some a =>
      simp only [Sem.run_bind] at hst ⊢
      rw [hst]
      rfl

theorem run_append_grow' {P : Program} {w : World} {t xt ty e : TypeId} {sz by_ n sLen sCap : Nat} {base : Option Addr} {x z : Value} {news old : Array Value} (ht : P.underlying t = some (.slice e)) (hx : noInt P xt = true) (hsz : tsz P e = some sz)
    (hby : tby P e = some by_) (hz : tzero P e = some z) (h0 : 0 < by_)
    (hl : (Builtin.lenOf x).run P w = .ok n w) (hf : (Builtin.firstCells sz n x).run P w.drew = .ok news w.drew) (ho : (Builtin.firstCells sz sLen (.slice base sLen sCap)).run P w.drew = .ok old w.drew) (hroom : sCap < sLen + n)
    (hb : (sLen + n) * by_ ≤ 140737488355328) :
    (Builtin.append_ #[t, xt] ty #[.slice base sLen sCap, x]).run P w = .ok (.slice (some ⟨w.heap.size, 0, none⟩) (sLen + n) (grownCap w (sLen + n) sCap e))
      { w.drew with heap := w.heap.push (.cells (old ++ news ++ Builtin.zeroCells z.cells (grownCap w (sLen + n) sCap e - (sLen + n))) e) } := by
  have hxt : (∃ d, P.underlying xt = some (.slice d)) ∨ P.underlying xt = some .string := by
    unfold noInt at hx
    split at hx
    · rename_i d hd; exact .inl ⟨d, hd⟩
    · rename_i hd; exact .inr hd
    · cases hx
  obtain ⟨i, hi, rfl⟩ := run_tby w hby
  obtain ⟨i2, hi2, hi3⟩ := run_tby w.drew hby
  have hfit := growslice_fits hroom hb
  have h1 : ¬ (((sLen + n : Nat) : Int) > IntKind.i64.max ∧ (False ∨ i.bytes = 0)) := by rintro ⟨_, h | h⟩; exact h; omega
  have h2 : ¬ (Builtin.nextslicecap (sLen + n) sCap * i.bytes > 2 ^ 48) := by omega
  unfold Builtin.append_
  simp only [Array.getElem?_eq_getElem, List.size_toArray, List.length_cons, List.length_nil, Nat.zero_lt_succ, Nat.lt_add_one, List.getElem_toArray, List.getElem_cons_zero, List.getElem_cons_succ, Nat.reduceLT, Nat.zero_add, Nat.reduceAdd]
  have hcap : (Question.appendCap (sLen + n) sCap e).cut (w.tape w.drawn (.appendCap (sLen + n) sCap e)) = grownCap w (sLen + n) sCap e := rfl
  have hi2' : (typeInfo e).run P { w with drawn := w.drawn + 1 } = .ok i2 w.drew := hi2
  have ho' : (Builtin.firstCells sz sLen (.slice base sLen sCap)).run P { w with drawn := w.drawn + 1 } = .ok old w.drew := ho
  rcases hxt with ⟨d, hd⟩ | hd <;>
  · simp only [Sem.run_bind, run_underlying ht, Result.andThen, run_tsz w hsz, run_underlying hd, Sem.run_pure]
    simp only [Bool.false_eq_true, if_false, hl, Nat.not_le.2 hroom, Sem.run_bind, hi, Result.andThen, Sem.run_ite, h1, h2, if_false, Sem.run_pure, run_choose, Question.forced]
    simp only [hcap, hi2', run_askRoom, Result.andThen]
    simp only [ho, hf, Bool.not_false, if_true, run_tzero w.drew hz, Result.andThen, newRow, Sem.run_bind, run_newObj, Sem.run_pure]
    rfl
end Ab
end

section
namespace Ab
open Go
set_option autoImplicit false
set_option linter.unusedVariables false
set_option linter.unusedSimpArgs false

theorem Rel.kill {M : Mp} {h : AHeap} {w : World} (r : Rel M h w) (i : Nat) : Rel M (h.kill i) w where
  live := fun j o b hj hM => by
    simp only [AHeap.kill] at hj
    split at hj
    · cases hj
    · exact r.live j o b hj hM
  inj := fun j k b b' hj hk => by
    simp only [AHeap.kill] at hj hk
    split at hj
    · cases hj
    · split at hk
      · cases hk
      · exact r.inj j k b b' hj hk
  fresh := r.fresh
  glob := r.glob
  inb := r.inb
  ble := r.ble
  bnd := fun j hj => by simp only [AHeap.kill]; split; rfl; exact r.bnd j hj
  oldro := fun j o hj hjo => by
    simp only [AHeap.kill] at hjo
    split at hjo
    · cases hjo
    · exact r.oldro j o hj hjo
  nb := r.nb
  b0 := r.b0

theorem push_kill (h : AHeap) (i j : Nat) (o : AObj) : ((h.kill i).push o).obj j = if j = h.next then some o else if j = i then none else h.obj j := rfl

/-- A row (or the part of it from `off` on) is seen as a row of its own, the elder one given up: of cells beyond what was known nothing is known. -/
theorem Rel.review {M : Mp} {h : AHeap} {w : World} (r : Rel M h w) {i off : Nat} {c c2 : List Value} {e : TypeId} {sz : Nat} {ti : Bool} {b : Blk}
    (ho : h.obj i = some (.row c e sz ti false)) (hM : M i = some b) (hi : h.base ≤ i) (hle : off + c2.length ≤ b.size) (hc : ∀ j v, c2[j]? = some v → v = poison ∨ c[off + j]? = some v) :
    Rel (upd M h.next ⟨b.blk, b.base + off, b.size - off, b.esz, true⟩) ((h.kill i).push (.row c2 e sz false false)) w ∧
    Post M h w (upd M h.next ⟨b.blk, b.base + off, b.size - off, b.esz, true⟩) ((h.kill i).push (.row c2 e sz false false)) w := by
  have hn : M h.next = none := r.fresh _ (Nat.le_refl _)
  have hle' := upd_le (b := ⟨b.blk, b.base + off, b.size - off, b.esz, true⟩) hn
  have hin : i ≠ h.next := fun e => by subst e; rw [hn] at hM; cases hM
  obtain ⟨cc, lo, hi', h1, h2, h3, h4, h5, h6, h7⟩ := r.live i _ b ho hM
  constructor
  · constructor
    · intro j o b' hj hMj
      rw [push_kill] at hj
      by_cases ej : j = h.next
      · subst ej
        rw [if_pos rfl] at hj
        obtain rfl := Option.some.inj hj
        simp only [upd, if_pos] at hMj
        obtain rfl := Option.some.inj hMj
        refine ⟨cc, lo, hi', h1, by simp only []; omega, by simp only []; omega, h4, (fun h => by cases h), h6, fun k v hk => ?_⟩
        rcases hc k v hk with rfl | hv
        · have hk2 : k < c2.length := (List.getElem?_eq_some_iff.1 hk).1
          have hlt : b.base + off + k < cc.size := by omega
          exact ⟨cc[b.base + off + k], Array.getElem?_eq_getElem hlt, .any _⟩
        · obtain ⟨vc, hvc, hr⟩ := h7 (off + k) v hv
          exact ⟨vc, by simp only []; rw [Nat.add_assoc]; exact hvc, hr.mono hle'⟩
      · rw [if_neg ej] at hj
        split at hj
        · cases hj
        · simp only [upd, if_neg ej] at hMj
          exact (r.live j o b' hj hMj).mono hle' rfl
    · intro j k b1 b2 hj hk hMj hMk e'
      rw [push_kill] at hj hk
      simp only [upd] at hMj hMk
      by_cases ej : j = h.next <;> by_cases ek : k = h.next
      · rw [ej, ek]
      · exfalso
        rw [if_pos ej] at hMj; rw [if_neg ek] at hMk hk
        obtain rfl := Option.some.inj hMj
        split at hk
        · cases hk
        · rename_i hki
          exact hki (r.inj k i b2 b hk (by simp [ho]) hMk hM e'.symm)
      · exfalso
        rw [if_pos ek] at hMk; rw [if_neg ej] at hMj hj
        obtain rfl := Option.some.inj hMk
        split at hj
        · cases hj
        · rename_i hji
          exact hji (r.inj j i b1 b hj (by simp [ho]) hMj hM e')
      · rw [if_neg ej] at hMj hj; rw [if_neg ek] at hMk hk
        split at hj
        · cases hj
        · split at hk
          · cases hk
          · exact r.inj j k b1 b2 hj hk hMj hMk e'
    · intro j hj
      have hj' : h.next + 1 ≤ j := hj
      simp only [upd, if_neg (show ¬ j = h.next by omega)]
      exact r.fresh j (by omega)
    · intro j hj
      obtain ⟨b', g1, g2⟩ := r.glob j hj
      exact ⟨b', hle' _ _ g1, g2⟩
    · intro j b1 hMj
      simp only [upd] at hMj
      split at hMj
      · obtain rfl := Option.some.inj hMj; exact r.inb i b hM
      · exact r.inb j b1 hMj
    · exact Nat.le_trans r.ble (Nat.le_succ _)
    · intro j hj
      have hj' : h.next + 1 ≤ j := hj
      rw [push_kill, if_neg (by omega)]
      split
      · rfl
      · exact r.bnd j (by omega)
    · intro j o hj hjo
      have hj' : j < h.base := hj
      have hble := r.ble
      rw [push_kill, if_neg (by omega)] at hjo
      split at hjo
      · cases hjo
      · exact r.oldro j o hj' hjo
    · intro j b1 hj hMj
      simp only [upd] at hMj
      split at hMj
      · obtain rfl := Option.some.inj hMj; exact r.nb i b hi hM
      · exact r.nb j b1 hj hMj
    · intro j b1 hMj ho
      simp only [upd] at hMj
      split at hMj
      · obtain rfl := Option.some.inj hMj; cases ho
      · exact r.b0 j b1 hMj ho
  · constructor
    · exact hle'
    · intro j hj hm
      simp only [upd, if_neg (show ¬ j = h.next by omega)]; exact hm
    · exact Nat.le_succ _
    · rfl
    · exact Nat.le_refl _
    · rfl
    · rfl
    · rfl
    · exact fun _ _ _ => rfl
    · exact fun _ _ => rfl
    · intro j b1 hj hMj
      rw [push_kill] at hj
      simp only [upd] at hMj
      right
      split at hMj
      · obtain rfl := Option.some.inj hMj
        exact ⟨i, b, by simp [ho], hM, rfl⟩
      · rename_i e'
        rw [if_neg e'] at hj
        split at hj
        · cases hj
        · exact ⟨j, b1, hj, hMj, rfl⟩

theorem setL_append : ∀ (l a : List Value) (k : Nat) (z : Value), l.length = k → setL (a ++ List.replicate k z) a.length l = a ++ l
  | [], a, k, z, h => by
    obtain rfl : k = 0 := (by simpa using h.symm)
    simp [setL]
  | v :: l, a, k, z, h => by
    obtain ⟨k, rfl⟩ : ∃ m, k = m + 1 := ⟨k - 1, by simp at h; omega⟩
    simp only [setL, List.replicate_succ]
    have e : (a ++ z :: List.replicate k z).set a.length v = (a ++ [v]) ++ List.replicate k z := by
      rw [List.set_append_right _ _ (Nat.le_refl _)]; simp
    rw [e]
    have := setL_append l (a ++ [v]) k z (by simpa using h)
    rw [List.length_append, List.length_singleton] at this
    rw [this]; simp

def appendW (P : Program) (h : AHeap) (t xt : TypeId) (s x : Value) : Option (Value × AHeap) :=
  match P.underlying t with
  | some (.slice e) => match tsz P e, tby P e, tzero P e with
    | some sz, some by_, some z => match srcCells h sz x with
      | some (n, l) =>
        if noInt P xt = true ∧ 0 < sz ∧ 0 < by_ ∧ z.cells.size = sz ∧ l.all okCell = true then
          match s with
          | .slice none _ _ =>
            if n = 0 then some (.slice none 0 0, h)
            else if n * by_ ≤ 140737488355328 then some (.slice (some ⟨h.next, 0, none⟩) n n, h.push (.row l e sz false false)) else none
          | .slice (some ⟨i, off, none⟩) len cap =>
            if n = 0 then some (.slice (some ⟨i, off, none⟩) len cap, h) else
            match h.obj i with
            | some (.row c e' sz' ti ro) =>
              if sz' = sz ∧ off + len * sz ≤ c.length then
                if len + n ≤ cap then
                  if ro = false ∧ off + len * sz + l.length ≤ c.length then some (.slice (some ⟨i, off, none⟩) (len + n) cap, h.set i (.row (setL c (off + len * sz) l) e' sz' ti ro)) else none
                else if (len + n) * by_ ≤ 140737488355328 then
                  if ti = true then
                    some (.slice (some ⟨h.next, 0, none⟩) (len + n) (len + n), h.push (.row ((c.drop off).take (len * sz) ++ l) e sz false false))
                  else if ro = false ∧ h.base ≤ i ∧ e' = e then
                    some (.slice (some ⟨h.next, 0, none⟩) (len + n) (len + n), (h.kill i).push (.row ((c.drop off).take (len * sz) ++ l) e sz false false))
                  else none
                else none
              else none
            | _ => none
          | _ => none
        else none
      | none => none
    | _, _, _ => none
  | _ => none

/-- The grown row. -/
theorem Rel.grown {M : Mp} {h : AHeap} {w : World} (r : Rel M h w) {c : List Value} {old news : Array Value} {z : Array Value} {e : TypeId} {sz need cap : Nat} (hc : VRels M c.toArray (old ++ news)) (hsz : z.size = sz) (hl : c.length = need * sz)
    (hge : need ≤ cap) :
    let w' : World := { w.drew with heap := w.heap.push (.cells (old ++ news ++ Builtin.zeroCells z (cap - need)) e) }
    let M' := upd M h.next ⟨w.heap.size, 0, cap * sz, sz, true⟩
    Rel M' (h.push (.row c e sz false false)) w' ∧ Post M h w M' (h.push (.row c e sz false false)) w' ∧
      VRel M' (.slice (some ⟨h.next, 0, none⟩) need need) (.slice (some ⟨w.heap.size, 0, none⟩) need cap) := by
  intro w' M'
  have r1 : Rel M h w.drew := r.world rfl
  have hcs : (old ++ news).size = need * sz := by have := hc.1; simp only [List.size_toArray] at this; omega
  have hmul : need * sz ≤ cap * sz := Nat.mul_le_mul_right _ hge
  have hsum : need * sz + (cap - need) * sz = cap * sz := by rw [← Nat.add_mul]; congr 1; omega
  obtain ⟨r2, p2⟩ := r1.alloc (o := .row c e sz false false) (co := .cells (old ++ news ++ Builtin.zeroCells z (cap - need)) e) (sz := cap * sz) (esz := sz) (op := true) (by
    refine ⟨old ++ news ++ Builtin.zeroCells z (cap - need), 0, 0, Array.getElem?_push_size, ?_, ?_, rfl, (fun h => by cases h), (fun _ => .inl rfl), fun j v hj => ?_⟩
    · rw [Array.size_append, hcs, size_zeroCells, hsz]; simp only []; omega
    · simp only []; omega
    · obtain ⟨v', e1, hr⟩ := hc.get? (by simpa using hj)
      refine ⟨v', ?_, hr.mono (upd_le (r1.fresh _ (Nat.le_refl _)))⟩
      simp only [Nat.zero_add]
      rw [Array.getElem?_append_left (Array.getElem?_eq_some_iff.1 e1).1]
      exact e1)
  refine ⟨r2, (Post.world (M := M) (h := h) (w := w) (w' := w.drew) rfl rfl rfl rfl).trans p2, ?_⟩
  have := VRel.slice (M := M') h.next 0 need need cap _ (upd_self _ _ _) (Nat.le_refl _) (.inr ⟨rfl, hge, by simp⟩)
  simpa using this

theorem VRels.append {M : Mp} {a b a' b' : Array Value} (h : VRels M a a') (k : VRels M b b') : VRels M (a ++ b) (a' ++ b') := by
  refine ⟨by simp [h.1, k.1], fun j h1 h2 => ?_⟩
  simp only [Array.getElem_append]
  split
  · rename_i hj
    rw [dif_pos (h.1 ▸ hj)]
    exact h.2 _ _ _
  · rename_i hj
    rw [dif_neg (h.1 ▸ hj)]
    simp only [h.1]
    have := k.2 (j - a'.size) (by simp at h1; have := h.1; omega) (by simp at h2; have := h.1; omega)
    exact this
end Ab
end

section
namespace Ab
open Go
set_option autoImplicit false
set_option linter.unusedVariables false
set_option linter.unusedSimpArgs false

theorem VRels.nil {M : Mp} : VRels M #[] #[] := ⟨rfl, fun j h1 h2 => absurd h1 (by simp)⟩

theorem VRels.ofLists {M : Mp} {a b : List Value} {a' b' : Array Value} (h : VRels M a.toArray a') (k : VRels M b.toArray b') : VRels M (a ++ b).toArray (a' ++ b') := by
  have := h.append k
  simpa using this

theorem kill_push_comm {M : Mp} {h : AHeap} {w : World} (r : Rel M h w) {i : Nat} {b : Blk} (hM : M i = some b) (o : AObj) : (h.kill i).push o = (h.push o).kill i := by
  have hin : i ≠ h.next := by rintro rfl; rw [r.fresh _ (Nat.le_refl _)] at hM; cases hM
  unfold AHeap.kill AHeap.push
  congr 1
  funext j
  simp only []
  by_cases ej : j = h.next
  · subst ej; simp [Ne.symm hin]
  · simp [ej]

theorem Post.kill {M M' : Mp} {h h' : AHeap} {w w' : World} (p : Post M h w M' h' w') (i : Nat) : Post M h w M' (h'.kill i) w' :=
  ⟨p.ext, p.ghost, p.next, p.base, p.size, p.os, p.tape, p.output, p.frame, p.old, fun j bb hj hMj => by
    refine p.grow j bb ?_ hMj
    simp only [AHeap.kill] at hj
    split at hj
    · cases hj
    · exact hj⟩

theorem appendW_sound {P : Program} {M : Mp} {h h' : AHeap} {w : World} {t xt ty : TypeId} {s s' x x' u : Value} (r : Rel M h w) (hs : VRel M s s') (hx : VRel M x x') (ha : appendW P h t xt s x = some (u, h')) :
    ∃ u' w' M', (Builtin.append_ #[t, xt] ty #[s', x']).run P w = .ok u' w' ∧ VRel M' u u' ∧ Rel M' h' w' ∧ Post M h w M' h' w' := by
  unfold appendW at ha
  split at ha
  · rename_i e ht
    split at ha
    · rename_i sz by_ z hsz hby hz
      split at ha
      · rename_i n l hsrc
        split at ha
        · rename_i hc
          obtain ⟨hx1, h0, hby0, hzs, hall⟩ := hc
          obtain ⟨news, hlen, hfirst, hnews, hll⟩ := srcCells_sound (P := P) r hx hsrc
          have rd : Rel M h w.drew := r.world rfl
          obtain ⟨news2, hlen2, hfirst2, hnews2, _⟩ := srcCells_sound (P := P) rd hx hsrc
          have hok : ∀ v ∈ l, v.oneCell' = true ∧ v ≠ poison := by
            rw [List.all_eq_true] at hall
            intro v hv
            have := hall v hv
            simp only [okCell, Bool.and_eq_true] at this
            exact ⟨this.1, known_ne this.2⟩
          -- nothing is appended
          have hnone : n = 0 → ∀ base sLen sCap, sLen ≤ sCap → (Builtin.append_ #[t, xt] ty #[.slice base sLen sCap, x']).run P w = .ok (.slice base (sLen + n) sCap) w := by
            intro hn base sLen sCap hle
            refine run_append_room' ht hx1 hsz hlen hfirst (by omega) ?_
            have hne : news = #[] := by
              have := hnews.1; simp only [List.size_toArray] at this
              apply Array.eq_empty_of_size_eq_zero; rw [← this, hll, hn, Nat.zero_mul]
            subst hne
            cases base <;> rfl
          -- what a grown row gives
          have hgrow : ∀ (c : List Value) (old : Array Value) (base : Option Addr) (sLen sCap : Nat), VRels M c.toArray old → c.length = sLen * sz → (Builtin.firstCells sz sLen (.slice base sLen sCap)).run P w.drew = .ok old w.drew →
              sCap < sLen + n → (sLen + n) * by_ ≤ 140737488355328 →
              ∃ u' w' M', (Builtin.append_ #[t, xt] ty #[.slice base sLen sCap, x']).run P w = .ok u' w' ∧ VRel M' (.slice (some ⟨h.next, 0, none⟩) (sLen + n) (sLen + n)) u' ∧
                Rel M' (h.push (.row (c ++ l) e sz false false)) w' ∧ Post M h w M' (h.push (.row (c ++ l) e sz false false)) w' := by
            intro c old base sLen sCap hco hcl hfo hroom hb
            have hrun := run_append_grow' (ty := ty) ht hx1 hsz hby hz hby0 hlen hfirst2 hfo hroom hb
            obtain ⟨r2, p2, v2⟩ := r.grown (VRels.ofLists hco hnews2) (z := z.cells) hzs (e := e) (need := sLen + n) (cap := grownCap w (sLen + n) sCap e)
              (by rw [List.length_append, hcl, hll, Nat.add_mul]) (grownCap_ge _ _ _ _)
            exact ⟨_, _, _, hrun, v2, r2, p2⟩
          cases hs <;> simp only [poison] at ha <;> first | (cases ha; done) | skip
          case nilSlice =>
            split at ha
            · rename_i hn
              simp only [Option.some.injEq, Prod.mk.injEq] at ha
              obtain ⟨rfl, rfl⟩ := ha
              refine ⟨_, _, _, hnone hn none 0 0 (Nat.le_refl _), ?_, r, Post.refl _ _ _⟩
              subst hn; exact .nilSlice
            · rename_i hn
              split at ha
              · rename_i hb
                simp only [Option.some.injEq, Prod.mk.injEq] at ha
                obtain ⟨rfl, rfl⟩ := ha
                have := hgrow [] #[] none 0 0 VRels.nil (by simp) (by simp [Builtin.firstCells]) (by omega) (by simpa using hb)
                simpa using this
              · cases ha
          case slice i off len cap cap' b hM hlc hcap =>
            have hcc : cap ≤ cap' := by rcases hcap with h | h; omega; exact h.2.1
            split at ha
            · rename_i hn
              simp only [Option.some.injEq, Prod.mk.injEq] at ha
              obtain ⟨rfl, rfl⟩ := ha
              refine ⟨_, _, _, hnone hn _ len cap' (by omega), ?_, r, Post.refl _ _ _⟩
              subst hn; exact .slice i off len cap cap' b hM hlc hcap
            · rename_i hn
              split at ha
              · rename_i c e' sz' ti ro ho
                split at ha
                · rename_i hcond
                  obtain ⟨rfl, hoff⟩ := hcond
                  obtain ⟨cc, lo, hi, g1, g2, g3, g4, g5, g6, g7⟩ := r.live i _ b ho hM
                  split at ha
                  · rename_i hroom
                    split at ha
                    · rename_i hro
                      obtain ⟨rfl, hfit⟩ := hro
                      simp only [Option.some.injEq, Prod.mk.injEq] at ha
                      obtain ⟨rfl, rfl⟩ := ha
                      obtain ⟨w', hw', r', p'⟩ := run_storeCells (P := P) hM l news.toList (off + len * sz') 0 c h w r ho (by simpa using hfit) (by simpa using hnews) (fun v hv => (hok v hv).1) (fun v hv => (hok v hv).2)
                      refine ⟨_, w', M, run_append_room' ht hx1 hsz hlen hfirst (by omega) ?_, ?_, r', p'⟩
                      · simp only [add_eq, Nat.add_assoc]
                        exact hw'
                      · exact .slice i off (len + n) cap cap' b hM hroom hcap
                    · cases ha
                  · rename_i hroom
                    split at ha
                    · rename_i hb
                      -- the cells that are there
                      obtain ⟨cs, hcs, hcr⟩ := rd.cells (P := P) ho hM hoff
                      have hgrow' := fun (hr : cap' < len + n) => hgrow ((c.drop off).take (len * sz')) cs (some ⟨b.blk, b.base + off, none⟩) len cap' hcr (by simp; omega) hcs hr hb
                      split at ha
                      · rename_i htight
                        simp only [Option.some.injEq, Prod.mk.injEq] at ha
                        obtain ⟨rfl, rfl⟩ := ha
                        have hcap' : cap' = cap := by
                          rcases hcap with h | ⟨hge, h⟩
                          · exact h
                          · rw [g5 htight] at hge; cases hge
                        exact hgrow' (by omega)
                      · split at ha
                        · rename_i hro
                          obtain ⟨rfl, hbase, rfl⟩ := hro
                          simp only [Option.some.injEq, Prod.mk.injEq] at ha
                          obtain ⟨rfl, rfl⟩ := ha
                          by_cases hr : cap' < len + n
                          · obtain ⟨u', w', M', h1, h2, h3, h4⟩ := hgrow' hr
                            rw [kill_push_comm r hM]
                            exact ⟨u', w', M', h1, h2, h3.kill i, h4.kill i⟩
                          · -- there was room: the row is seen anew, and written
                            have hopen : off + cap' * sz' ≤ b.size := by
                              rcases hcap with h | ⟨_, _, h⟩
                              · omega
                              · rw [g4] at h; exact h
                            have hmul : (len + n) * sz' ≤ cap' * sz' := Nat.mul_le_mul_right _ (by omega)
                            rw [Nat.add_mul] at hmul
                            have ht2 : ((c.drop off).take (len * sz')).length = len * sz' := by simp; omega
                            have hcl2 : ((c.drop off).take (len * sz') ++ List.replicate (n * sz') poison).length = len * sz' + n * sz' := by rw [List.length_append, ht2, List.length_replicate]
                            obtain ⟨r2, p2⟩ := r.review (off := off) (c2 := (c.drop off).take (len * sz') ++ List.replicate (n * sz') poison) ho hM hbase (by rw [hcl2]; omega) (fun j v hj => by
                              by_cases hjl : j < len * sz'
                              · right
                                rw [List.getElem?_append_left (by omega), List.getElem?_take, if_pos hjl, List.getElem?_drop] at hj
                                exact hj
                              · left
                                rw [List.getElem?_append_right (by omega), List.getElem?_replicate] at hj
                                split at hj
                                · exact (Option.some.inj hj).symm
                                · cases hj)
                            have hle2 : M.le (upd M h.next ⟨b.blk, b.base + off, b.size - off, b.esz, true⟩) := p2.ext
                            obtain ⟨w', hw', r', p'⟩ := run_storeCells (P := P) (upd_self M h.next ⟨b.blk, b.base + off, b.size - off, b.esz, true⟩) l news.toList (len * sz') 0 _ _ w r2 (by rw [push_kill, if_pos rfl]) (by rw [hcl2]; omega)
                              (by simpa using hnews.mono hle2) (fun v hv => (hok v hv).1) (fun v hv => (hok v hv).2)
                            have e2 : ((h.kill i).push (.row ((c.drop off).take (len * sz') ++ List.replicate (n * sz') poison) e' sz' false false)).set h.next (.row (setL ((c.drop off).take (len * sz') ++ List.replicate (n * sz') poison) (len * sz' + 0) l) e' sz' false false) =
                                (h.kill i).push (.row ((c.drop off).take (len * sz') ++ l) e' sz' false false) := by
                              have := setL_append l ((c.drop off).take (len * sz')) (n * sz') poison hll
                              rw [ht2] at this
                              rw [Nat.add_zero, this]
                              unfold AHeap.set AHeap.push AHeap.kill
                              congr 1
                              funext j
                              simp only []
                              split <;> rfl
                            rw [e2] at r' p'
                            refine ⟨_, w', _, run_append_room' ht hx1 hsz hlen hfirst (by omega) ?_, ?_, r', p2.trans p'⟩
                            · simp only [add_eq]
                              exact hw'
                            · have := VRel.slice (M := upd M h.next ⟨b.blk, b.base + off, b.size - off, b.esz, true⟩) h.next 0 (len + n) (len + n) cap' ⟨b.blk, b.base + off, b.size - off, b.esz, true⟩ (upd_self _ _ _) (Nat.le_refl _) (.inr ⟨rfl, by omega, by simp only []; rw [g4]; omega⟩)
                              simpa using this
                        · cases ha
                    · cases ha
                · cases ha
              · cases ha
          case slice00 i off a b hM =>
            split at ha
            · rename_i hn
              simp only [Option.some.injEq, Prod.mk.injEq] at ha
              obtain ⟨rfl, rfl⟩ := ha
              refine ⟨_, _, _, hnone hn _ 0 0 (by omega), ?_, r, Post.refl _ _ _⟩
              subst hn; exact .slice00 i off a b hM
            · rename_i hn
              split at ha
              · rename_i c e' sz' ti ro ho
                split at ha
                · rename_i hcond
                  obtain ⟨rfl, hoff⟩ := hcond
                  rw [if_neg (by omega)] at ha
                  have ht0 : (c.drop off).take (0 * sz') = [] := by simp
                  rw [ht0, List.nil_append] at ha
                  split at ha
                  · rename_i hb
                    have hgrow' := fun (hr : 0 < 0 + n) => hgrow [] #[] (some a) 0 0 VRels.nil (by simp) (by simp [Builtin.firstCells, loadCells, loadCellsFrom]) hr hb
                    rw [List.nil_append] at hgrow'
                    split at ha
                    · simp only [Option.some.injEq, Prod.mk.injEq] at ha
                      obtain ⟨rfl, rfl⟩ := ha
                      exact hgrow' (by omega)
                    · split at ha
                      · rename_i hro
                        obtain ⟨rfl, hbase, rfl⟩ := hro
                        simp only [Option.some.injEq, Prod.mk.injEq] at ha
                        obtain ⟨rfl, rfl⟩ := ha
                        obtain ⟨u', w', M', h1, h2, h3, h4⟩ := hgrow' (by omega)
                        rw [kill_push_comm r hM]
                        exact ⟨u', w', M', h1, h2, h3.kill i, h4.kill i⟩
                      · cases ha
                  · cases ha
                · cases ha
              · cases ha
          case slice0 i off off' cap' b hM hcap =>
            split at ha
            · rename_i hn
              simp only [Option.some.injEq, Prod.mk.injEq] at ha
              obtain ⟨rfl, rfl⟩ := ha
              refine ⟨_, _, _, hnone hn _ 0 cap' (by omega), ?_, r, Post.refl _ _ _⟩
              subst hn; exact .slice0 i off off' cap' b hM hcap
            · rename_i hn
              split at ha
              · rename_i c e' sz' ti ro ho
                split at ha
                · rename_i hcond
                  obtain ⟨rfl, hoff⟩ := hcond
                  obtain ⟨cc, lo, hi, g1, g2, g3, g4, g5, g6, g7⟩ := r.live i _ b ho hM
                  rw [if_neg (by omega)] at ha
                  have ht0 : (c.drop off).take (0 * sz') = [] := by simp
                  rw [ht0, List.nil_append] at ha
                  split at ha
                  · rename_i hb
                    have hgrow' := fun (hr : cap' < 0 + n) => hgrow [] #[] (some ⟨b.blk, b.base + off', none⟩) 0 cap' VRels.nil (by simp) (by simp [Builtin.firstCells, loadCells, loadCellsFrom]) hr hb
                    rw [List.nil_append] at hgrow'
                    split at ha
                    · rename_i htight
                      simp only [Option.some.injEq, Prod.mk.injEq] at ha
                      obtain ⟨rfl, rfl⟩ := ha
                      have hcap' : cap' = 0 := by
                        rcases hcap with h | ⟨hge, h⟩
                        · exact h
                        · rw [g5 htight] at hge; cases hge
                      exact hgrow' (by omega)
                    · split at ha
                      · rename_i hro
                        obtain ⟨rfl, hbase, rfl⟩ := hro
                        simp only [Option.some.injEq, Prod.mk.injEq] at ha
                        obtain ⟨rfl, rfl⟩ := ha
                        by_cases hr : cap' < 0 + n
                        · obtain ⟨u', w', M', h1, h2, h3, h4⟩ := hgrow' hr
                          rw [kill_push_comm r hM]
                          exact ⟨u', w', M', h1, h2, h3.kill i, h4.kill i⟩
                        · have hopen : off' + cap' * sz' ≤ b.size := by
                            rcases hcap with h | ⟨_, h⟩
                            · omega
                            · rw [g4] at h; exact h
                          have hmul : n * sz' ≤ cap' * sz' := Nat.mul_le_mul_right _ (by omega)
                          have hcl2 : (List.replicate (n * sz') poison).length = n * sz' := List.length_replicate
                          obtain ⟨r2, p2⟩ := r.review (off := off') (c2 := List.replicate (n * sz') poison) ho hM hbase (by rw [hcl2]; omega) (fun j v hj => by
                            left
                            rw [List.getElem?_replicate] at hj
                            split at hj
                            · exact (Option.some.inj hj).symm
                            · cases hj)
                          obtain ⟨w', hw', r', p'⟩ := run_storeCells (P := P) (upd_self M h.next ⟨b.blk, b.base + off', b.size - off', b.esz, true⟩) l news.toList 0 0 _ _ w r2 (by rw [push_kill, if_pos rfl]) (by rw [hcl2]; omega)
                            (by simpa using hnews.mono p2.ext) (fun v hv => (hok v hv).1) (fun v hv => (hok v hv).2)
                          have e2 : ((h.kill i).push (.row (List.replicate (n * sz') poison) e' sz' false false)).set h.next (.row (setL (List.replicate (n * sz') poison) (0 + 0) l) e' sz' false false) =
                              (h.kill i).push (.row l e' sz' false false) := by
                            have := setL_append l [] (n * sz') poison hll
                            simp only [List.nil_append, List.length_nil] at this
                            rw [Nat.add_zero, this]
                            unfold AHeap.set AHeap.push AHeap.kill
                            congr 1
                            funext j
                            simp only []
                            split <;> rfl
                          rw [e2] at r' p'
                          refine ⟨_, w', _, run_append_room' ht hx1 hsz hlen hfirst (by omega) ?_, ?_, r', p2.trans p'⟩
                          · simp only [add_eq, Nat.zero_mul, Nat.add_zero] at hw' ⊢
                            exact hw'
                          · have := VRel.slice (M := upd M h.next ⟨b.blk, b.base + off', b.size - off', b.esz, true⟩) h.next 0 (0 + n) (0 + n) cap' ⟨b.blk, b.base + off', b.size - off', b.esz, true⟩ (upd_self _ _ _) (Nat.le_refl _) (.inr ⟨rfl, by omega, by simp only []; rw [g4]; omega⟩)
                            simpa using this
                      · cases ha
                  · cases ha
                · cases ha
              · cases ha
        · cases ha
      · cases ha
    · cases ha
  · cases ha
end Ab
end

section
namespace Ab
open Go
set_option autoImplicit false
set_option linter.unusedVariables false
set_option linter.unusedSimpArgs false

/-! ### A conversion of a slice of bytes to its own type -/
def convS (P : Program) (h : AHeap) (src dst : TypeId) : Value → Option Value
  | .slice (some ⟨i, off, none⟩) len cap => match P.underlying src with
    | some (.slice e) => match P.underlying e, h.obj i with
      | some (.int .u8), some (.row _ _ _ _ _) => if src = dst ∧ h.base ≤ i ∧ cap ≠ 0 then some (.slice (some ⟨i, off, none⟩) len cap) else none
      | _, _ => none
    | _ => none
  | _ => none

/-- The mark of a conversion, behind a row's cells. -/
theorem Rel.mark {M : Mp} {h : AHeap} {w : World} (r : Rel M h w) {i : Nat} {c : List Value} {e : TypeId} {sz : Nat} {ti ro : Bool} {b : Blk} (ho : h.obj i = some (.row c e sz ti ro)) (hM : M i = some b) (hbase : h.base ≤ i) :
    ∃ n, w.shape? b.blk = some (e, n) ∧ Rel M h (w.freeze ⟨b.blk, n, none⟩ 1) ∧ Post M h w M h (w.freeze ⟨b.blk, n, none⟩ 1) := by
  obtain ⟨cc, lo, hi, g1, g2, g3, g4, g5, g6, g7⟩ := r.live i _ b ho hM
  refine ⟨cc.size, by simp [World.shape?, g1], ?_⟩
  have hsz : (w.freeze ⟨b.blk, cc.size, none⟩ 1).heap.size = w.heap.size := by simp [World.freeze]
  have hoth : ∀ k, k ≠ b.blk → (w.freeze ⟨b.blk, cc.size, none⟩ 1).heap[k]? = w.heap[k]? := fun k hk => by
    simp only [World.freeze]
    rw [if_neg (by decide)]
    simp only [Array.getElem?_modify]; rw [if_neg (fun e => hk e.symm)]
  have hhere : (w.freeze ⟨b.blk, cc.size, none⟩ 1).heap[b.blk]? = some (.cells cc e (if lo == hi then (cc.size, cc.size + 1) else (min lo cc.size, max hi (cc.size + 1)))) := by
    simp only [World.freeze]
    rw [if_neg (by decide)]
    simp [Array.getElem?_modify, g1]
  constructor
  · constructor
    · intro j o b' hj hMj
      by_cases ej : j = i
      · subst ej
        rw [ho] at hj; obtain rfl := Option.some.inj hj
        rw [hM] at hMj; obtain rfl := Option.some.inj hMj
        by_cases hlh : lo = hi
        · rw [if_pos (beq_iff_eq.2 hlh)] at hhere
          exact ⟨cc, _, _, hhere, g2, g3, g4, g5, (fun _ => .inr (Nat.le_refl _)), g7⟩
        · rw [if_neg (by simpa using hlh)] at hhere
          exact ⟨cc, _, _, hhere, g2, g3, g4, g5, (fun hr => .inr (by have := g6 hr; omega)), g7⟩
      · exact (r.live j o b' hj hMj).mono .rfl (hoth _ fun e' => ej (r.inj j i b' b (by simp [hj]) (by simp [ho]) hMj hM e'))
    · exact r.inj
    · exact r.fresh
    · exact r.glob
    · exact fun j b1 hj => by rw [hsz]; exact r.inb j b1 hj
    · exact r.ble
    · exact r.bnd
    · exact r.oldro
    · exact r.nb
    · exact r.b0
  · exact ⟨.rfl, fun _ _ h => h, Nat.le_refl _, rfl, by rw [hsz]; exact Nat.le_refl _, by simp [World.freeze], by simp [World.freeze], by simp [World.freeze],
      (fun k _ hu => hoth k (fun e' => hu i b (by simp [ho]) hM e'.symm)), (fun k hk => hoth k (by have := r.nb i b hbase hM; omega)), fun j b1 hj hMj => .inr ⟨j, b1, hj, hMj, rfl⟩⟩
theorem convS_sound {P : Program} {M : Mp} {h : AHeap} {w : World} {src dst : TypeId} {x x' v : Value} (r : Rel M h w) (hx : VRel M x x') (hs : convS P h src dst x = some v) :
    ∃ v' w', (convert src dst x').run P w = .ok v' w' ∧ VRel M v v' ∧ Rel M h w' ∧ Post M h w M h w' := by
  have key : ∀ (i off len cap off' cap' : Nat) (b : Blk), M i = some b → convS P h src dst (.slice (some ⟨i, off, none⟩) len cap) = some v → VRel M (.slice (some ⟨i, off, none⟩) len cap) (.slice (some ⟨b.blk, off', none⟩) len cap') →
      ∃ v' w', (convert src dst (.slice (some ⟨b.blk, off', none⟩) len cap')).run P w = .ok v' w' ∧ VRel M v v' ∧ Rel M h w' ∧ Post M h w M h w' := by
    clear hs hx
    intro i off len cap off' cap' b hM hs hv
    simp only [convS] at hs
    split at hs
    · rename_i e hd
      split at hs
      · rename_i c el sz ti ro he ho
        split at hs
        · rename_i hc
          obtain ⟨rfl, hbase, _⟩ := hc
          obtain rfl := Option.some.inj hs
          obtain ⟨n, hsh, r', p'⟩ := r.mark ho hM hbase
          refine ⟨_, _, ?_, hv, r', p'⟩
          unfold convert
          simp only [Sem.run_bind, run_underlying hd, Result.andThen, run_underlying he, beq_self_eq_true, markStringish, run_shape, hsh, run_freeze, Sem.run_pure]
        · cases hs
      · cases hs
    · cases hs
  cases hx <;> first | (simp [convS, poison] at hs; done) | skip
  case slice i off len cap cap' b hM h1 h2 => exact key i off len cap _ cap' b hM hs (.slice i off len cap cap' b hM h1 h2)
  case slice00 i off a b hM =>
    simp only [convS] at hs
    split at hs
    · split at hs
      · rw [if_neg (fun h => h.2.2 rfl)] at hs; cases hs
      · cases hs
    · cases hs
  case slice0 i off off' cap' b hM h1 => exact key i off 0 0 _ cap' b hM hs (.slice0 i off off' cap' b hM h1)

/-! ### len, min, max -/
def lenE (P : Program) (h : AHeap) (t : TypeId) (v : Value) : Option Value :=
  match P.underlying t with
  | some .string => match v with | .string s => some (.int .i64 s.size) | _ => none
  | some (.slice _) => match v with | .slice _ n _ => some (.int .i64 n) | _ => none
  | some (.array n _) => some (.int .i64 n)
  | some (.pointer a) => match P.underlying a with | some (.array n _) => some (.int .i64 n) | _ => none
  | some (.map _ _) => match v with
    | .map none => some (.int .i64 0)
    | .map (some i) => match h.obj i with | some (.other (.map es _)) => some (.int .i64 es.size) | _ => none
    | _ => none
  | _ => none

theorem lenE_sound {P : Program} {M : Mp} {h : AHeap} {w : World} {t ty : TypeId} {x x' v : Value} {ts : Array TypeId} (r : Rel M h w) (hx : VRel M x x') (hs : lenE P h t x = some v) (ht : ts[0]? = some t) :
    (Builtin.len_ ts ty #[x']).run P w = .ok v w ∧ VRel M v v := by
  have e0 : (#[x'] : Array Value)[0]? = some x' := rfl
  unfold lenE at hs
  unfold Builtin.len_
  simp only [ht, e0]
  split at hs
  · rename_i hd
    split at hs
    · obtain rfl := Option.some.inj hs
      cases hx
      exact ⟨by simp [run_underlying hd, goInt, Result.andThen], .int _ _⟩
    · cases hs
  · rename_i e hd
    split at hs
    · obtain rfl := Option.some.inj hs
      cases hx <;> exact ⟨by simp [run_underlying hd, goInt, Result.andThen], .int _ _⟩
    · cases hs
  · rename_i n e hd
    obtain rfl := Option.some.inj hs
    exact ⟨by simp [run_underlying hd, goInt, Result.andThen], .int _ _⟩
  · rename_i a hd
    split at hs
    · rename_i n e hd2
      obtain rfl := Option.some.inj hs
      exact ⟨by simp [run_underlying hd, run_underlying hd2, goInt, Result.andThen], .int _ _⟩
    · cases hs
  · rename_i k e hd
    split at hs
    · obtain rfl := Option.some.inj hs
      cases hx
      exact ⟨by simp [run_underlying hd, goInt, Result.andThen], .int _ _⟩
    · split at hs
      · rename_i es clock ho
        obtain rfl := Option.some.inj hs
        cases hx
        rename_i b hM
        obtain ⟨es', g1, g2⟩ := r.live _ _ b ho hM
        refine ⟨?_, .int _ _⟩
        simp [run_underlying hd, goInt, Result.andThen, getObj, Sem.run, g1, g2.1]
      · cases hs
    · cases hs
  · cases hs

def min2A : Value → Value → Option Value
  | .int k x, .int _ y => some (.int k (if y < x then y else x))
  | _, _ => none
def max2A : Value → Value → Option Value
  | .int k x, .int _ y => some (.int k (if x < y then y else x))
  | _, _ => none
def foldA (f : Value → Value → Option Value) : Value → List Value → Option Value
  | x, [] => match x with | .int k n => some (.int k n) | _ => none
  | x, y :: l => (f x y).bind fun z => foldA f z l

theorem VRels.tail {M : Mp} {v v' : Value} {l l' : List Value} (h : VRels M (v :: l).toArray (v' :: l').toArray) : VRel M v v' ∧ VRels M l.toArray l'.toArray := by
  refine ⟨h.2 0 (by simp) (by simp), by have := h.1; simpa using this, fun j a b => ?_⟩
  have := h.2 (j + 1) (by simpa using a) (by simpa using b)
  simpa using this

theorem foldA_sound {P : Program} {M : Mp} {w : World} {f : Value → Value → Option Value} {g : Value → Value → Sem Value} (hf : ∀ x y z, f x y = some z → (g x y).run P w = .ok z w ∧ VRel M z z ∧ (∃ k n, x = .int k n) ∧ ∃ k n, y = .int k n) :
    ∀ (l l' : List Value) (x x' v : Value), VRel M x x' → VRels M l.toArray l'.toArray → foldA f x l = some v → (l'.foldlM g x').run P w = .ok v w ∧ VRel M v v
  | [], l', x, x', v, hx, hl, h => by
    obtain rfl : l' = [] := by have := hl.1; simp at this; exact List.length_eq_zero_iff.1 this.symm
    unfold foldA at h
    split at h
    · obtain rfl := Option.some.inj h
      cases hx
      exact ⟨rfl, .int _ _⟩
    · cases h
  | y :: l, l', x, x', v, hx, hl, h => by
    cases l' with
    | nil => have := hl.1; simp at this
    | cons y' l' =>
      obtain ⟨hy, hl'⟩ := hl.tail
      simp only [foldA, Option.bind_eq_some_iff] at h
      obtain ⟨z, hz, h⟩ := h
      obtain ⟨e1, e2, ⟨k, n, rfl⟩, ⟨k2, n2, rfl⟩⟩ := hf x y z hz
      cases hx; cases hy
      have ih := foldA_sound hf l l' z z v e2 hl' h
      exact ⟨by rw [List.foldlM_cons, Sem.run_bind, e1]; exact ih.1, ih.2⟩

theorem min2A_sound {P : Program} {M : Mp} {w : World} (x y z : Value) (h : min2A x y = some z) : (Builtin.min2 x y).run P w = .ok z w ∧ VRel M z z ∧ (∃ k n, x = .int k n) ∧ ∃ k n, y = .int k n := by
  unfold min2A at h
  split at h
  · obtain rfl := Option.some.inj h; exact ⟨rfl, .int _ _, ⟨_, _, rfl⟩, ⟨_, _, rfl⟩⟩
  · cases h
theorem max2A_sound {P : Program} {M : Mp} {w : World} (x y z : Value) (h : max2A x y = some z) : (Builtin.max2 x y).run P w = .ok z w ∧ VRel M z z ∧ (∃ k n, x = .int k n) ∧ ∃ k n, y = .int k n := by
  unfold max2A at h
  split at h
  · obtain rfl := Option.some.inj h; exact ⟨rfl, .int _ _, ⟨_, _, rfl⟩, ⟨_, _, rfl⟩⟩
  · cases h

/-! ### make of a slice -/
def makeSliceA (P : Program) (id : Nat) (t : TypeId) : Value → Value → Option (Value × AObj)
  | .int _ l, .int _ c => match P.underlying t with
    | some (.slice e) => match tsz P e, tby P e, tzero P e with
      | some sz, some by_, some z =>
        if 0 ≤ l ∧ l ≤ c ∧ c ≤ 9223372036854775807 ∧ (by_ : Int) * c ≤ 281474976710656 ∧ z.cells.size = sz ∧ sz ≠ 0 ∧ z.cells.toList.all constCell = true then
          some (.slice (some ⟨id, 0, none⟩) l.toNat c.toNat, .row (zeros z.cells (c.toNat * sz)).toList e sz true false)
        else none
      | _, _, _ => none
    | _ => none
  | _, _ => none

theorem makeSliceA_sound {P : Program} {M : Mp} {w : World} {id : Nat} {t : TypeId} {x x' y y' u : Value} {o : AObj} (hx : VRel M x x') (hy : VRel M y y') (hs : makeSliceA P id t x y = some (u, o)) :
    AllocOk P M w id (Instr.makeSlice t x' y') u o := by
  unfold makeSliceA at hs
  split at hs
  · rename_i k l k2 c
    cases hx; cases hy
    split at hs
    · rename_i e hd
      split at hs
      · rename_i sz by_ z hsz hby hz
        split at hs
        · rename_i hc
          obtain ⟨h0, hlc, hmax, hb, hzs, hs0, hall⟩ := hc
          simp only [Option.some.injEq, Prod.mk.injEq] at hs
          obtain ⟨rfl, rfl⟩ := hs
          refine AllocOk.row (vc := .slice (some ⟨w.heap.size, 0, none⟩) l.toNat c.toNat) (ccs := zeros z.cells (c.toNat * sz)) (VRels.refl (M := M) (zeros_const (n := c.toNat * sz) hall (.inl (by omega)))) ?_
            (fun M' h => .slice id 0 l.toNat c.toNat c.toNat _ h (by omega) (.inl rfl))
          have hwl : IntKind.i64.wrap l = l := IntWalk.i64_in l ⟨by omega, by omega⟩
          have hwc : IntKind.i64.wrap c = c := IntWalk.i64_in c ⟨by omega, by omega⟩
          obtain ⟨i, hi, rfl⟩ := run_tby w hby
          unfold Instr.makeSlice
          have hq1 : (decide (c < 0) || decide ((i.bytes : Int) * c > 2 ^ 48)) = false := by
            simp only [Bool.or_eq_false_iff, decide_eq_false_iff_not]; omega
          have hq2 : (decide (l < 0)) = false := by simp only [decide_eq_false_iff_not]; omega
          have hq3 : (decide (l > c)) = false := by simp only [decide_eq_false_iff_not]; omega
          simp only [Sem.run_bind, run_underlying hd, Result.andThen, asInt, asIntOf, Sem.run_pure, hi, hwl, hwc, hq1, hq2, hq3, Bool.or_false, Bool.false_eq_true, if_false, Sem.run_ite, run_askRoom, run_tsz w hsz]
          by_cases hn : c.toNat * sz = 0
          · have e3 : zeros z.cells (c.toNat * sz) = #[] := by simp [hn, zeros]
            rw [e3]
            have e4 : Array.range 0 = #[] := rfl
            simp only [hn, if_true, e4, List.map_toArray, List.map_nil, Array.map_empty, newRow, Sem.run_bind, run_newObj, Result.andThen, Sem.run_pure, Nat.add_zero]
          · simp only [hn, if_false, run_tzero w hz, Result.andThen, newRow, Sem.run_bind, run_newObj, Sem.run_pure, Nat.add_zero]
            rfl
        · cases hs
      · cases hs
    · cases hs
  · cases hs
end Ab
end

section
namespace Ab
open Go
set_option autoImplicit false
set_option linter.unusedVariables false
set_option linter.unusedSimpArgs false

/-! ### The builtin copy, from slice to slice -/
def copyW (P : Program) (h : AHeap) (t : TypeId) (v u : Value) : Option (Value × AHeap) :=
  match P.underlying t with
  | some (.slice e) => match tsz P e with
    | some sz => match u with
      | .slice ub un uc => match srcCells h sz (.slice ub un uc) with
        | some (n, l) => match v with
          | .slice none _ _ => some (.int .i64 0, h)
          | .slice (some ⟨i, off, none⟩) d _ =>
            if min n d = 0 then some (.int .i64 0, h) else
            match h.obj i with
            | some (.row c e' sz' ti ro) =>
              if ro = false ∧ off + (l.take (min n d * sz)).length ≤ c.length ∧ (l.take (min n d * sz)).all okCell = true then
                some (.int .i64 (min n d : Nat), h.set i (.row (setL c off (l.take (min n d * sz))) e' sz' ti ro))
              else none
            | _ => none
          | _ => none
        | none => none
      | _ => none
    | none => none
  | _ => none

theorem srcCells_short {P : Program} {M : Mp} {h : AHeap} {w : World} {sz n m : Nat} {l : List Value} {ub : Option Addr} {un uc : Nat} {x' : Value} (r : Rel M h w) (hx : VRel M (.slice ub un uc) x')
    (hs : srcCells h sz (.slice ub un uc) = some (n, l)) (hm : m ≤ n) :
    ∃ cs : Array Value, (Builtin.lenOf x').run P w = .ok n w ∧ (Builtin.firstCells sz m x').run P w = .ok cs w ∧ VRels M (l.take (m * sz)).toArray cs := by
  obtain ⟨cs0, e1, e2, e3, e4⟩ := srcCells_sound (P := P) r hx hs
  by_cases hz : m = 0
  · subst hz
    refine ⟨#[], e1, ?_, by simpa using VRels.nil⟩
    cases hx <;> simp [Builtin.firstCells, loadCells, loadCellsFrom]
  cases hx with
  | nilSlice =>
    simp only [srcCells, Option.some.injEq, Prod.mk.injEq] at hs
    omega
  | slice i off len cap cap' b hM h1 h2 =>
    simp only [srcCells] at hs
    split at hs
    · rename_i c e esz ti ro ho
      split at hs
      · rename_i hoff
        simp only [Option.some.injEq, Prod.mk.injEq] at hs
        obtain ⟨rfl, rfl⟩ := hs
        have hmul : m * sz ≤ un * sz := Nat.mul_le_mul_right _ hm
        obtain ⟨cs, hcs, hr⟩ := r.cells (P := P) (n := m * sz) (off := off) ho hM (by omega)
        refine ⟨cs, e1, hcs, ?_⟩
        rw [List.take_take, Nat.min_eq_left hmul]
        exact hr
      · cases hs
    · split at hs
      · simp only [Option.some.injEq, Prod.mk.injEq] at hs
        omega
      · cases hs
  | slice0 i off off' cap' b hM h1 =>
    have : n = 0 := by
      simp only [Builtin.lenOf, Sem.run_pure] at e1
      injection e1 with e1 _
      exact e1.symm
    omega
  | slice00 i off a b hM =>
    have : n = 0 := by
      simp only [Builtin.lenOf, Sem.run_pure] at e1
      injection e1 with e1 _
      exact e1.symm
    omega

theorem copyW_sound {P : Program} {M : Mp} {h h' : AHeap} {w : World} {t xt ty : TypeId} {v v' u u' r0 : Value} (r : Rel M h w) (hv : VRel M v v') (hu : VRel M u u') (ha : copyW P h t v u = some (r0, h')) :
    ∃ r1 w', (Builtin.copy_ #[t, xt] ty #[v', u']).run P w = .ok r1 w' ∧ VRel M r0 r1 ∧ Rel M h' w' ∧ Post M h w M h' w' := by
  unfold copyW at ha
  split at ha
  · rename_i e ht
    split at ha
    · rename_i sz hsz
      split at ha
      · rename_i ub un uc
        split at ha
        · rename_i n l hsrc
          have hrun : ∀ (base : Option Addr) (d cp : Nat) (cs : Array Value) (w' : World), (Builtin.lenOf u').run P w = .ok n w → (Builtin.firstCells sz (min n d) u').run P w = .ok cs w →
              ((match base with | some a => storeCells a cs.toList | none => pure ()) : Sem Unit).run P w = .ok () w' →
              (Builtin.copy_ #[t, xt] ty #[.slice base d cp, u']).run P w = .ok (.int .i64 (min n d : Nat)) w' := by
            intro base d cp cs w' h1 h2 h3
            unfold Builtin.copy_
            have e1 : (#[t, xt] : Array TypeId)[0]? = some t := rfl
            have e2 : (#[Value.slice base d cp, u'] : Array Value)[0]? = some (.slice base d cp) := rfl
            have e3 : (#[Value.slice base d cp, u'] : Array Value)[1]? = some u' := rfl
            simp only [e1, e2, e3, Sem.run_bind, run_underlying ht, Result.andThen, h1, run_tsz w hsz, Sem.run_pure]
            have h2' : (Builtin.firstCells sz (Nat.min n d) u').run P w = .ok cs w := h2
            simp only [h2', Result.andThen]
            cases base with
            | none =>
              simp only [Sem.run_pure, Result.ok.injEq, true_and] at h3
              subst h3
              rfl
            | some a => simp only [Sem.run_bind, h3, Result.andThen, Sem.run_pure]; rfl
          have hnothing : ∀ (base : Option Addr) (d cp : Nat), min n d = 0 → ∃ r1 w', (Builtin.copy_ #[t, xt] ty #[.slice base d cp, u']).run P w = .ok r1 w' ∧ VRel M (.int .i64 0) r1 ∧ Rel M h w' ∧ Post M h w M h w' := by
            intro base d cp hz
            obtain ⟨cs, g1, g2, g3⟩ := srcCells_short (P := P) (m := min n d) r hu hsrc (Nat.min_le_left _ _)
            have hc : cs = #[] := by
              have := g3.1; rw [hz] at this; simp at this
              exact Array.eq_empty_of_size_eq_zero this.symm
            subst hc
            refine ⟨_, w, hrun base d cp #[] w g1 g2 ?_, ?_, r, Post.refl _ _ _⟩
            · cases base <;> rfl
            · rw [hz]; exact .int _ _
          cases hv <;> simp only [poison] at ha <;> first | (cases ha; done) | skip
          case nilSlice =>
            simp only [Option.some.injEq, Prod.mk.injEq] at ha
            obtain ⟨rfl, rfl⟩ := ha
            exact hnothing none 0 0 (by simp)
          case slice i off d cap cap' b hM hlc hcap =>
            split at ha
            · rename_i hz
              simp only [Option.some.injEq, Prod.mk.injEq] at ha
              obtain ⟨rfl, rfl⟩ := ha
              exact hnothing _ d cap' hz
            · split at ha
              · rename_i c e' sz' ti ro ho
                split at ha
                · rename_i hcond
                  obtain ⟨rfl, hfit, hall⟩ := hcond
                  simp only [Option.some.injEq, Prod.mk.injEq] at ha
                  obtain ⟨rfl, rfl⟩ := ha
                  obtain ⟨cs, g1, g2, g3⟩ := srcCells_short (P := P) (m := min n d) r hu hsrc (Nat.min_le_left _ _)
                  have hok : ∀ v ∈ l.take (min n d * sz), v.oneCell' = true ∧ v ≠ poison := by
                    rw [List.all_eq_true] at hall
                    intro v hv
                    have := hall v hv
                    simp only [okCell, Bool.and_eq_true] at this
                    exact ⟨this.1, known_ne this.2⟩
                  obtain ⟨w', hw', r', p'⟩ := run_storeCells (P := P) hM (l.take (min n d * sz)) cs.toList off 0 c h w r ho (by simpa using hfit) (by simpa using g3) (fun v hv => (hok v hv).1) (fun v hv => (hok v hv).2)
                  exact ⟨_, w', hrun _ d cap' cs w' g1 g2 hw', .int _ _, r', p'⟩
                · cases ha
              · cases ha
          case slice0 i off off' cap' b hM hcap =>
            rw [if_pos (by simp)] at ha
            simp only [Option.some.injEq, Prod.mk.injEq] at ha
            obtain ⟨rfl, rfl⟩ := ha
            exact hnothing _ 0 cap' (by simp)
          case slice00 i off a b hM =>
            rw [if_pos (by simp)] at ha
            simp only [Option.some.injEq, Prod.mk.injEq] at ha
            obtain ⟨rfl, rfl⟩ := ha
            exact hnothing _ 0 0 (by simp)
        · cases ha
      · cases ha
    · cases ha
  · cases ha
end Ab
end

section
namespace Ab
open Go
set_option autoImplicit false
set_option linter.unusedVariables false
set_option linter.unusedSimpArgs false

/-! ### Maps, and structs that are compared -/
def flat1 : Value → Bool
  | .bool _ | .int _ _ | .string _ => true
  | _ => false
/-- A value without references. -/
def flatB : Value → Bool
  | .agg cs => cs.toList.all flat1
  | v => flat1 v

theorem VRel.flat1 {M : Mp} {v v' : Value} (h : VRel M v v') (hf : flat1 v = true) : v' = v := by
  cases h <;> first | rfl | (simp [Ab.flat1, poison] at hf; done)
theorem VRel.flat {M : Mp} {v v' : Value} (h : VRel M v v') (hf : flatB v = true) : v' = v := by
  by_cases hv : ∃ cs, v = .agg cs
  · obtain ⟨cs, rfl⟩ := hv
    cases h
    rename_i c' h1 h2
    congr 1
    apply Array.ext h1.symm
    intro j a b
    simp only [flatB, List.all_eq_true] at hf
    exact (h2 j b a).flat1 (hf _ (by simp))
  · have : Ab.flat1 v = true := by
      unfold flatB at hf
      split at hf
      · exact absurd ⟨_, rfl⟩ hv
      · exact hf
    exact h.flat1 this

/-- What is asked of a key, and of those that are there. -/
def keysOk (P : Program) (kt : TypeId) (k : Value) (es : List MapEntry) : Prop :=
  WideMaps.KeyLaw P kt ∧ flatB k = true ∧ (∃ l, keyOf P kt k = some l) ∧ (∀ e ∈ es, ∃ l, keyOf P kt e.key = some l) ∧ (es.map (·.key)).Nodup

open Classical in
noncomputable def isK (k : Value) (e : MapEntry) : Bool := decide (e.key = k)
theorem isK_iff {k : Value} {e : MapEntry} : isK k e = true ↔ e.key = k := by simp [isK]
theorem isK_not {k : Value} {e : MapEntry} : (!isK k e) = true ↔ e.key ≠ k := by simp [isK]
noncomputable def findE (k : Value) (es : List MapEntry) : Option Value := (es.find? (isK k)).map (·.val)

theorem findE_none {k : Value} {es : List MapEntry} (h : ∀ e ∈ es, e.key ≠ k) : findE k es = none := by
  unfold findE
  rw [List.find?_eq_none.2 (fun e he hk => h e he (isK_iff.1 hk))]; rfl
theorem findE_some {k : Value} : ∀ {es : List MapEntry} {e : MapEntry}, (es.map (·.key)).Nodup → e ∈ es → e.key = k → findE k es = some e.val
  | [], _, _, h, _ => by cases h
  | x :: es, e, hn, he, hk => by
    simp only [List.map_cons, List.nodup_cons] at hn
    rcases List.mem_cons.1 he with rfl | he
    · simp [findE, isK_iff.2 hk]
    · have : x.key ≠ k := fun h => hn.1 (by rw [h, ← hk]; exact List.mem_map_of_mem he)
      have ih := findE_some hn.2 he hk
      unfold findE at ih ⊢
      rw [List.find?_cons_of_neg (fun hk => this (isK_iff.1 hk))]
      exact ih

def mapE (h : AHeap) : Value → Option (List MapEntry)
  | .map none => some []
  | .map (some i) => match h.obj i with
    | some (.other (.map es _)) => some es.toList
    | _ => none
  | _ => none

open Classical in
noncomputable def lookupR (P : Program) (h : AHeap) (t : TypeId) (m k : Value) (ok : Bool) : Option Value :=
  match P.underlying t with
  | some (.map kt e) => (tzero P e).bind fun z => (mapE h m).bind fun es => if keysOk P kt k es ∧ constOk z = true then
      some (match findE k es with
        | some v => if ok then .tuple #[v, .bool true] else v
        | none => if ok then .tuple #[z, .bool false] else z) else none
  | _ => none

theorem MapRel.mem {M : Mp} {es es' : Array MapEntry} (h : MapRel M es es') : es'.toList.map (·.key) = es.toList.map (·.key) := by
  apply List.ext_getElem
  · simp [h.1]
  · intro j a b
    simp at a b
    have := (h.2 j b a).1
    simp [this]

theorem MapRel.get {M : Mp} {es es' : Array MapEntry} (h : MapRel M es es') {j : Nat} {e' : MapEntry} (he : es'.toList[j]? = some e') : ∃ e, es.toList[j]? = some e ∧ e.key = e'.key ∧ e.born = e'.born ∧ VRel M e.val e'.val := by
  obtain ⟨hj, rfl⟩ := List.getElem?_eq_some_iff.1 he
  simp at hj
  have hj2 : j < es.size := by rw [h.1]; exact hj
  obtain ⟨h1, h2, h3⟩ := h.2 j hj2 hj
  exact ⟨es[j], by simp [hj2], by simpa using h1, by simpa using h2, by simpa using h3⟩

/-- What a search among the machine's entries comes to. -/
theorem find_sound {P : Program} {kt : TypeId} {M : Mp} {es es' : Array MapEntry} {k : Value} (w : World) (hm : MapRel M es es') (hk : keysOk P kt k es.toList) :
    ((Instr.findKey kt k es'.toList).run P w = .ok none w ∧ (∀ e ∈ es.toList, e.key ≠ k) ∧ findE k es.toList = none) ∨
    ∃ j e e', (Instr.findKey kt k es'.toList).run P w = .ok (some (j, e'.val)) w ∧ es.toList[j]? = some e ∧ es'.toList[j]? = some e' ∧ e.key = k ∧ e'.key = k ∧ VRel M e.val e'.val ∧ findE k es.toList = some e.val := by
  obtain ⟨law, hf, ⟨l, hl⟩, hall, hn⟩ := hk
  have hall' : ∀ e ∈ es'.toList, ∃ l, keyOf P kt e.key = some l := fun e he => by
    have : e.key ∈ es'.toList.map (·.key) := List.mem_map_of_mem he
    rw [hm.mem] at this
    obtain ⟨x, hx, hxe⟩ := List.mem_map.1 this
    rw [← hxe]; exact hall x hx
  rcases law.find w hl es'.toList hall' with ⟨h1, h2⟩ | ⟨j, e', h1, h2, h3⟩
  · left
    have h4 : ∀ e ∈ es.toList, e.key ≠ k := fun e he hek => by
      have : e.key ∈ es.toList.map (·.key) := List.mem_map_of_mem he
      rw [← hm.mem] at this
      obtain ⟨x, hx, hxe⟩ := List.mem_map.1 this
      exact h2 x hx (hxe.trans hek)
    exact ⟨h1, h4, findE_none h4⟩
  · right
    obtain ⟨e, q1, q2, q3, q4⟩ := hm.get h2
    exact ⟨j, e, e', h1, q1, h2, q2.trans h3, h3, q4, findE_some hn (List.mem_of_getElem? q1) (q2.trans h3)⟩

theorem mapE_sound {P : Program} {M : Mp} {h : AHeap} {w : World} (r : Rel M h w) {m m' : Value} (hx : VRel M m m') {es : List MapEntry} (he : mapE h m = some es) :
    (m = .map none ∧ m' = .map none ∧ es = []) ∨ ∃ i b clock a a', m = .map (some i) ∧ m' = .map (some b.blk) ∧ M i = some b ∧ h.obj i = some (.other (.map a clock)) ∧ es = a.toList ∧ w.heap[b.blk]? = some (.map a' clock) ∧ MapRel M a a' := by
  cases hx <;> simp only [mapE, poison] at he <;> first | (cases he; done) | skip
  · obtain rfl := Option.some.inj he
    exact .inl ⟨rfl, rfl, rfl⟩
  · rename_i i b hM
    split at he
    · rename_i a clock ho
      obtain rfl := Option.some.inj he
      obtain ⟨a', h1, h2⟩ := r.live i _ b ho hM
      exact .inr ⟨i, b, clock, a, a', rfl, rfl, hM, ho, rfl, h1, h2⟩
    · cases he

theorem lookupR_sound {P : Program} {M : Mp} {h : AHeap} {w : World} {t : TypeId} {m m' k k' v : Value} {ok : Bool} (r : Rel M h w) (hm : VRel M m m') (hk : VRel M k k') (hs : lookupR P h t m k ok = some v) :
    ∃ v', (Instr.lookup t m' k' ok).run P w = .ok v' w ∧ VRel M v v' := by
  unfold lookupR at hs
  split at hs
  · rename_i kt e ht
    simp only [Option.bind_eq_some_iff] at hs
    obtain ⟨z, hz, es, hes, hs⟩ := hs
    split at hs
    · rename_i hc
      obtain ⟨hko, hcz⟩ := hc
      have hkk := (hk.flat hko.2.1).symm
      subst hkk
      obtain ⟨law, hf, ⟨l, hl⟩, hall, hn⟩ := id hko
      have hzz := run_tzero (P := P) w hz
      have hfin : ∀ {u u' : Value} {b : Bool}, VRel M u u' → VRel M (if ok then .tuple #[u, .bool b] else u) (if ok then .tuple #[u', .bool b] else u') := fun {u u' b} hu => by
        cases ok
        · exact hu
        · exact VRels.tuple (by have := (VRels.single hu).append (VRels.single (VRel.bool (M := M) b)); simpa using this)
      rcases mapE_sound (P := P) r hm hes with ⟨rfl, rfl, rfl⟩ | ⟨i, b, clock, a, a', rfl, rfl, hM, ho, rfl, hw, hmr⟩
      · refine ⟨if ok then .tuple #[z, .bool false] else z, ?_, ?_⟩
        · rcases find_sound (P := P) (M := M) (es := #[]) (es' := #[]) w ⟨rfl, fun j h => by simp at h⟩ hko with ⟨q1, _⟩ | ⟨j, e, e', _, q2, _⟩
          · simp only [Instr.lookup, Sem.run_bind, run_underlying ht, Result.andThen_ok, Sem.run_pure, law.check w _ hl, q1, hzz, Sem.run_map]
          · simp at q2
        · obtain rfl := Option.some.inj hs
          simp only [findE, List.find?_nil, Option.map_none]
          exact hfin (VRel.const M hcz)
      · rcases find_sound (P := P) w hmr hko with ⟨q1, _, q3⟩ | ⟨j, e, e', q1, q2, q3, q4, q5, q6, q7⟩
        · rw [q3] at hs
          obtain rfl := Option.some.inj hs
          refine ⟨if ok then .tuple #[z, .bool false] else z, ?_, hfin (VRel.const M hcz)⟩
          simp only [Instr.lookup, Sem.run_bind, run_underlying ht, Result.andThen_ok, Sem.run_pure, MapKept.run_getObj_map hw, law.check w _ hl, q1, hzz, Sem.run_map]
        · rw [q7] at hs
          obtain rfl := Option.some.inj hs
          refine ⟨if ok then .tuple #[e'.val, .bool true] else e'.val, ?_, hfin q6⟩
          simp only [Instr.lookup, Sem.run_bind, run_underlying ht, Result.andThen_ok, Sem.run_pure, MapKept.run_getObj_map hw, law.check w _ hl, q1, hzz, Sem.run_map]
    · cases hs
  · cases hs

/-! ### Maps that turn -/
theorem Rel.setOther {M : Mp} {h : AHeap} {w : World} (r : Rel M h w) {i : Nat} {o o' : Obj} {b : Blk} {co : Obj} (ho : h.obj i = some (.other o)) (hM : M i = some b)
    (hn : ObjRel M b { w with heap := w.heap.setIfInBounds b.blk co } (.other o')) :
    Rel M (h.set i (.other o')) { w with heap := w.heap.setIfInBounds b.blk co } ∧ Post M h w M (h.set i (.other o')) { w with heap := w.heap.setIfInBounds b.blk co } := by
  have hoth : ∀ k, k ≠ b.blk → (w.heap.setIfInBounds b.blk co)[k]? = w.heap[k]? := fun k hk => by
    rw [Array.getElem?_setIfInBounds_ne (fun e => hk e.symm)]
  have hsz : (w.heap.setIfInBounds b.blk co).size = w.heap.size := by simp
  have hnew : h.base ≤ i := by
    rcases Nat.lt_or_ge i h.base with hi | hi
    · obtain ⟨c', e', sz', ti', he⟩ := r.oldro i _ hi ho
      cases he
    · exact hi
  have hsome : ∀ j, ((h.set i (.other o')).obj j).isSome ↔ (h.obj j).isSome := fun j => by
    simp only [AHeap.set]; split
    · rename_i e; subst e; simp [ho]
    · rfl
  constructor
  · constructor
    · intro j o2 b' hj hMj
      simp only [AHeap.set] at hj
      by_cases ej : j = i
      · subst ej
        rw [if_pos rfl] at hj
        obtain rfl := Option.some.inj hj
        rw [hM] at hMj; obtain rfl := Option.some.inj hMj
        exact hn
      · rw [if_neg ej] at hj
        refine (r.live j o2 b' hj hMj).mono .rfl (hoth _ ?_)
        intro e'
        exact ej (r.inj j i b' b (by simp [hj]) (by simp [ho]) hMj hM e')
    · exact fun j k b1 b2 hj hk => r.inj j k b1 b2 ((hsome j).1 hj) ((hsome k).1 hk)
    · exact r.fresh
    · exact r.glob
    · exact fun j b1 hj => by show b1.blk < (w.heap.setIfInBounds b.blk co).size; rw [hsz]; exact r.inb j b1 hj
    · exact r.ble
    · intro j hj
      have hb := r.bnd j hj
      simp only [AHeap.set]
      rw [if_neg (by rintro rfl; rw [ho] at hb; cases hb)]
      exact hb
    · intro j o2 hj hoj
      simp only [AHeap.set] at hoj
      have hjb : j < h.base := hj
      rw [if_neg (by omega)] at hoj
      exact r.oldro j o2 hjb hoj
    · exact r.nb
    · exact r.b0
  · constructor
    · exact .rfl
    · exact fun _ _ h => h
    · exact Nat.le_refl _
    · rfl
    · show w.heap.size ≤ (w.heap.setIfInBounds b.blk co).size; rw [hsz]; exact Nat.le_refl _
    · rfl
    · rfl
    · rfl
    · exact fun k hk hu => hoth k (fun e' => hu i b (by simp [ho]) hM e'.symm)
    · exact fun k hk => hoth k (by have := r.nb i b hnew hM; omega)
    · exact fun j b1 hj hMj => .inr ⟨j, b1, (hsome j).1 hj, hMj, rfl⟩

open Classical in
/-- The entries behind a laying in. -/
noncomputable def updE (es : Array MapEntry) (clock : Nat) (k x : Value) : Obj :=
  match es.toList.findIdx? (isK k) with
  | some j => .map (es.modify j fun e => { e with val := x }) clock
  | none => .map (es.push ⟨k, x, clock⟩) (clock + 1)

open Classical in
noncomputable def mapUpdW (P : Program) (h : AHeap) (t : TypeId) (m k x : Value) : Option AHeap :=
  match P.underlying t, m with
  | some (.map kt _), .map (some i) => match h.obj i with
    | some (.other (.map es clock)) => if keysOk P kt k es.toList then some (h.set i (.other (updE es clock k x))) else none
    | _ => none
  | _, _ => none

theorem findIdx_unique {k : Value} {p : MapEntry → Bool} (hp : ∀ e, p e = true ↔ e.key = k) : ∀ {es : List MapEntry} {j : Nat} {e : MapEntry}, (es.map (·.key)).Nodup → es[j]? = some e → e.key = k → es.findIdx? p = some j
  | [], j, e, _, h, _ => by simp at h
  | x :: es, 0, e, hn, h, hk => by
    simp at h; subst h
    rw [List.findIdx?_cons, (hp x).2 hk]; rfl
  | x :: es, j + 1, e, hn, h, hk => by
    simp only [List.map_cons, List.nodup_cons] at hn
    simp only [List.getElem?_cons_succ] at h
    have hx : x.key ≠ k := fun hx => hn.1 (by rw [hx, ← hk]; exact List.mem_map_of_mem (List.mem_of_getElem? h))
    have hpx : p x = false := by
      cases hq : p x
      · rfl
      · exact absurd ((hp x).1 hq) hx
    rw [List.findIdx?_cons, hpx, findIdx_unique hp hn.2 h hk]; rfl

theorem MapRel.push {M : Mp} {es es' : Array MapEntry} (h : MapRel M es es') {k x x' : Value} {c : Nat} (hx : VRel M x x') : MapRel M (es.push ⟨k, x, c⟩) (es'.push ⟨k, x', c⟩) := by
  refine ⟨by simp [h.1], fun j a b => ?_⟩
  simp only [Array.getElem_push, h.1]
  simp at a b
  split
  · rename_i hj; exact h.2 j (by rw [h.1]; exact hj) hj
  · exact ⟨rfl, rfl, hx⟩
theorem MapRel.modify {M : Mp} {es es' : Array MapEntry} (h : MapRel M es es') {x x' : Value} (i : Nat) (hx : VRel M x x') : MapRel M (es.modify i fun e => { e with val := x }) (es'.modify i fun e => { e with val := x' }) := by
  refine ⟨by simp [h.1], fun j a b => ?_⟩
  simp at a b
  simp only [Array.getElem_modify]
  obtain ⟨q1, q2, q3⟩ := h.2 j a b
  split
  · exact ⟨q1, q2, hx⟩
  · exact ⟨q1, q2, q3⟩

theorem mapUpdW_sound {P : Program} {M : Mp} {h h' : AHeap} {w : World} {t : TypeId} {m m' k k' x x' : Value} (r : Rel M h w) (hm : VRel M m m') (hk : VRel M k k') (hx : VRel M x x') (hs : mapUpdW P h t m k x = some h') :
    ∃ w', (Instr.mapUpdate t m' k' x').run P w = .ok () w' ∧ Rel M h' w' ∧ Post M h w M h' w' := by
  unfold mapUpdW at hs
  split at hs
  · rename_i kt e i ht
    split at hs
    · rename_i es clock ho
      split at hs
      · rename_i hko
        obtain rfl := Option.some.inj hs
        have hkk := (hk.flat hko.2.1).symm
        subst hkk
        obtain ⟨law, hf, ⟨l, hl⟩, hall, hn⟩ := id hko
        cases hm
        rename_i b hM
        obtain ⟨es', hw, hmr⟩ := r.live i _ b ho hM
        have hlt : b.blk < w.heap.size := r.inb i b hM
        rcases find_sound (P := P) w hmr hko with ⟨q1, q2, q3⟩ | ⟨j, e, e', q1, q2, q3, q4, q5, q6, q7⟩
        · have hu : updE es clock k x = .map (es.push ⟨k, x, clock⟩) (clock + 1) := by
            unfold updE
            rw [List.findIdx?_eq_none_iff.2 (fun e he => by cases hq : isK k e; rfl; exact absurd (isK_iff.1 hq) (q2 e he))]
          rw [hu]
          refine ⟨_, ?_, r.setOther (co := .map (es'.push ⟨k, x', clock⟩) (clock + 1)) ho hM ⟨_, by simp [Array.getElem?_setIfInBounds, hlt], hmr.push hx⟩⟩
          simp only [Instr.mapUpdate, Sem.run_bind, run_underlying ht, Result.andThen_ok, MapKept.run_getObj_map hw, law.check w _ hl, q1, MapKept.run_setObj_map _ hw]
        · have hu : updE es clock k x = .map (es.modify j fun e => { e with val := x }) clock := by
            unfold updE
            rw [findIdx_unique (k := k) (fun e => isK_iff) hn q2 q4]
          rw [hu]
          have hkey : (((es'[j]?).map (·.key)).getD k) = k := by
            rw [← Array.getElem?_toList, q3]; simpa using q5
          have hmod : (es'.modify j fun e => { e with key := k, val := x' }) = es'.modify j fun e => { e with val := x' } := by
            apply Array.ext'
            simp only [Array.toList_modify]
            apply List.ext_getElem?
            intro n
            simp only [List.getElem?_modify]
            by_cases hnj : j = n
            · subst hnj
              rw [q3]; simp [q5]
            · simp [hnj]
          refine ⟨_, ?_, r.setOther (co := .map (es'.modify j fun e => { e with val := x' }) clock) ho hM ⟨_, by simp [Array.getElem?_setIfInBounds, hlt], hmr.modify j hx⟩⟩
          simp only [Instr.mapUpdate, Sem.run_bind, run_underlying ht, Result.andThen_ok, MapKept.run_getObj_map hw, law.check w _ hl, q1, hkey, law.stays w hl, MapKept.run_setObj_map _ hw, hmod]
      · cases hs
    · cases hs
  · cases hs

open Classical in
noncomputable def delW (P : Program) (h : AHeap) (t : TypeId) (m k : Value) : Option AHeap :=
  match P.underlying t, m with
  | some (.map kt _), .map (some i) => match h.obj i with
    | some (.other (.map es clock)) => if keysOk P kt k es.toList then some (h.set i (.other (.map (es.filter fun e => !isK k e) clock))) else none
    | _ => none
  | _, _ => none

theorem filter_erase {k : Value} {p : MapEntry → Bool} (hp : ∀ e, p e = true ↔ e.key ≠ k) : ∀ {es : List MapEntry} {j : Nat} {e : MapEntry}, (es.map (·.key)).Nodup → es[j]? = some e → e.key = k → es.filter p = es.eraseIdx j
  | [], j, e, _, h, _ => by simp at h
  | x :: es, 0, e, hn, h, hk => by
    simp at h; subst h
    simp only [List.map_cons, List.nodup_cons] at hn
    have hpx : p x = false := by
      cases hq : p x
      · rfl
      · exact absurd hk ((hp x).1 hq)
    rw [List.filter_cons, hpx]
    simp only [Bool.false_eq_true, if_false, List.eraseIdx_cons_zero]
    rw [List.filter_eq_self]
    intro y hy
    exact (hp y).2 fun hy2 => hn.1 (by rw [hk, ← hy2]; exact List.mem_map_of_mem hy)
  | x :: es, j + 1, e, hn, h, hk => by
    simp only [List.map_cons, List.nodup_cons] at hn
    simp only [List.getElem?_cons_succ] at h
    have hx : x.key ≠ k := fun hx => hn.1 (by rw [hx, ← hk]; exact List.mem_map_of_mem (List.mem_of_getElem? h))
    rw [List.filter_cons, (hp x).2 hx]
    simp only [if_true, List.eraseIdx_cons_succ]
    rw [filter_erase hp hn.2 h hk]

theorem MapRel.erase {M : Mp} {es es' : Array MapEntry} (h : MapRel M es es') (j : Nat) : MapRel M (es.eraseIdxIfInBounds j) (es'.eraseIdxIfInBounds j) := by
  have e1 : ∀ (a : Array MapEntry), (a.eraseIdxIfInBounds j).toList = a.toList.eraseIdx j := fun a => by
    rw [Array.eraseIdxIfInBounds]
    split
    · simp
    · rename_i hj
      rw [List.eraseIdx_of_length_le (by simpa using hj)]
  have hsz : (es.eraseIdxIfInBounds j).size = (es'.eraseIdxIfInBounds j).size := by
    rw [← Array.length_toList, ← Array.length_toList, e1, e1, List.length_eraseIdx, List.length_eraseIdx]
    simp [h.1]
  refine ⟨hsz, fun n a b => ?_⟩
  have g1 : ∀ (x : Array MapEntry) (hx : n < (x.eraseIdxIfInBounds j).size), some ((x.eraseIdxIfInBounds j)[n]) = if n < j then x[n]? else x[n + 1]? := fun x hx => by
    rw [← Array.getElem?_eq_getElem, ← Array.getElem?_toList, e1, List.getElem?_eraseIdx]
    simp
  have ha := g1 es a
  have hb := g1 es' b
  split at ha
  · rename_i hn
    rw [if_pos hn] at hb
    obtain ⟨k1, e2⟩ := Array.getElem?_eq_some_iff.1 ha.symm
    obtain ⟨k3, e4⟩ := Array.getElem?_eq_some_iff.1 hb.symm
    rw [← e2, ← e4]; exact h.2 n k1 k3
  · rename_i hn
    rw [if_neg hn] at hb
    obtain ⟨k1, e2⟩ := Array.getElem?_eq_some_iff.1 ha.symm
    obtain ⟨k3, e4⟩ := Array.getElem?_eq_some_iff.1 hb.symm
    rw [← e2, ← e4]; exact h.2 (n + 1) k1 k3

theorem delW_sound {P : Program} {M : Mp} {h h' : AHeap} {w : World} {t ty : TypeId} {ts : Array TypeId} {m m' k k' : Value} (r : Rel M h w) (hm : VRel M m m') (hk : VRel M k k') (ht0 : ts[0]? = some t) (hs : delW P h t m k = some h') :
    ∃ w', (Builtin.delete_ ts ty #[m', k']).run P w = .ok (.tuple #[]) w' ∧ Rel M h' w' ∧ Post M h w M h' w' := by
  unfold delW at hs
  split at hs
  · rename_i kt e i ht
    split at hs
    · rename_i es clock ho
      split at hs
      · rename_i hko
        obtain rfl := Option.some.inj hs
        have hkk := (hk.flat hko.2.1).symm
        subst hkk
        obtain ⟨law, hf, ⟨l, hl⟩, hall, hn⟩ := id hko
        cases hm
        rename_i b hM
        obtain ⟨es', hw, hmr⟩ := r.live i _ b ho hM
        have hlt : b.blk < w.heap.size := r.inb i b hM
        have e0 : (#[Value.map (some b.blk), k] : Array Value)[0]? = some (.map (some b.blk)) := rfl
        have e1 : (#[Value.map (some b.blk), k] : Array Value)[1]? = some k := rfl
        rcases find_sound (P := P) w hmr hko with ⟨q1, q2, q3⟩ | ⟨j, e, e', q1, q2, q3, q4, q5, q6, q7⟩
        · have hu : (es.filter fun e => !isK k e) = es := by
            rw [Array.filter_eq_self]; intro e he; exact isK_not.2 (q2 e (by simpa using he))
          rw [hu]
          refine ⟨_, ?_, r.setOther (co := .map es' clock) ho hM ⟨_, by simp [Array.getElem?_setIfInBounds, hlt], hmr⟩⟩
          simp only [Builtin.delete_, ht0, e0, e1, Sem.run_bind, run_underlying ht, Result.andThen_ok, MapKept.run_getObj_map hw, law.check w _ hl, q1, MapKept.run_setObj_map _ hw, Sem.run_pure]
        · have hu : (es.filter fun e => !isK k e) = es.eraseIdxIfInBounds j := by
            apply Array.ext'
            rw [Array.toList_filter, filter_erase (k := k) (fun e => isK_not) hn q2 q4, Array.eraseIdxIfInBounds]
            split
            · simp
            · rename_i hj
              rw [List.eraseIdx_of_length_le (by simpa using hj)]
          rw [hu]
          refine ⟨_, ?_, r.setOther (co := .map (es'.eraseIdxIfInBounds j) clock) ho hM ⟨_, by simp [Array.getElem?_setIfInBounds, hlt], hmr.erase j⟩⟩
          simp only [Builtin.delete_, ht0, e0, e1, Sem.run_bind, run_underlying ht, Result.andThen_ok, MapKept.run_getObj_map hw, law.check w _ hl, q1, MapKept.run_setObj_map _ hw, Sem.run_pure]
      · cases hs
    · cases hs
  · cases hs

def clearW (P : Program) (h : AHeap) (t : TypeId) (m : Value) : Option AHeap :=
  match P.underlying t, m with
  | some (.map _ _), .map (some i) => match h.obj i with
    | some (.other (.map es clock)) => some (h.set i (.other (.map #[] clock)))
    | _ => none
  | _, _ => none

theorem clearW_sound {P : Program} {M : Mp} {h h' : AHeap} {w : World} {t ty : TypeId} {ts : Array TypeId} {m m' : Value} (r : Rel M h w) (hm : VRel M m m') (ht0 : ts[0]? = some t) (hs : clearW P h t m = some h') :
    ∃ w', (Builtin.clear_ ts ty #[m']).run P w = .ok (.tuple #[]) w' ∧ Rel M h' w' ∧ Post M h w M h' w' := by
  unfold clearW at hs
  split at hs
  · rename_i kt e i ht
    split at hs
    · rename_i es clock ho
      obtain rfl := Option.some.inj hs
      cases hm
      rename_i b hM
      obtain ⟨es', hw, hmr⟩ := r.live i _ b ho hM
      have hlt : b.blk < w.heap.size := r.inb i b hM
      have e0 : (#[Value.map (some b.blk)] : Array Value)[0]? = some (.map (some b.blk)) := rfl
      refine ⟨_, ?_, r.setOther (co := .map #[] clock) ho hM ⟨_, by simp [Array.getElem?_setIfInBounds, hlt], ⟨rfl, fun j h => by simp at h⟩⟩⟩
      simp only [Builtin.clear_, ht0, e0, Sem.run_bind, run_underlying ht, Result.andThen_ok, MapKept.run_getObj_map hw, MapKept.run_setObj_map _ hw, Sem.run_pure]
    · cases hs
  · cases hs

/-! ### Going through a map -/
def rangeW (P : Program) (h : AHeap) (t : TypeId) (x : Value) : Option (Value × AHeap) :=
  match P.underlying t, x with
  | some (.map _ _), .map (some i) => match h.obj i with
    | some (.other (.map es clock)) => some (.pointer (some ⟨h.next, 0, none⟩), h.push (.other (.mapIter (some i) clock #[] clock)))
    | _ => none
  | _, _ => none

theorem rangeW_sound {P : Program} {M : Mp} {h h' : AHeap} {w : World} {t : TypeId} {x x' v : Value} (r : Rel M h w) (hx : VRel M x x') (hs : rangeW P h t x = some (v, h')) :
    ∃ v' w' M', (Instr.range t x').run P w = .ok v' w' ∧ VRel M' v v' ∧ Rel M' h' w' ∧ Post M h w M' h' w' := by
  unfold rangeW at hs
  split at hs
  · rename_i kt e i ht
    split at hs
    · rename_i es clock ho
      simp only [Option.some.injEq, Prod.mk.injEq] at hs
      obtain ⟨rfl, rfl⟩ := hs
      cases hx
      rename_i b hM
      obtain ⟨es', hw, hmr⟩ := r.live i _ b ho hM
      have hn : M h.next = none := r.fresh _ (Nat.le_refl _)
      have hle := upd_le (b := ⟨w.heap.size, 0, 0, 1, false⟩) hn
      obtain ⟨r2, p2⟩ := r.alloc (o := .other (.mapIter (some i) clock #[] clock)) (co := .mapIter (some b.blk) clock #[] clock) (sz := 0) (esz := 1) (op := false)
        ⟨rfl, some b.blk, by simp, .map i b (hle _ _ hM)⟩
      refine ⟨.pointer (some ⟨w.heap.size, 0, none⟩), _, _, ?_, ?_, r2, p2⟩
      · simp [Instr.range, run_underlying ht, MapKept.run_getObj_map hw, Result.andThen, newObj, Sem.run]
      · exact .ptr h.next 0 ⟨w.heap.size, 0, 0, 1, false⟩ (by simp [upd])
    · cases hs
  · cases hs

def entryR (h : AHeap) (x : Value) : Option Value :=
  match x with
  | .pointer (some ⟨i, 0, none⟩) => match h.obj i with
    | some (.other (.mapIter (some m) _ seen stepped)) => match seen.back?, h.obj m with
      | some stamp, some (.other (.map es clock)) => if clock = stepped then match es.toList.find? (·.born == stamp) with
          | some e => if flatB e.key = true then some (.tuple #[e.key, e.val]) else none
          | none => none
        else none
      | _, _ => none
    | _ => none
  | _ => none

theorem VRel.refl_flat1 {M : Mp} {v : Value} (h : Ab.flat1 v = true) : VRel M v v := by
  cases v <;> simp [Ab.flat1] at h
  · exact .bool _
  · exact .int _ _
  · exact .string _
theorem VRel.refl_flat {M : Mp} {v : Value} (h : flatB v = true) : VRel M v v := by
  by_cases hv : ∃ cs, v = .agg cs
  · obtain ⟨cs, rfl⟩ := hv
    refine .agg _ _ rfl fun j a b => ?_
    simp only [flatB, List.all_eq_true] at h
    exact VRel.refl_flat1 (h _ (by simp))
  · refine VRel.refl_flat1 ?_
    unfold flatB at h
    split at h
    · exact absurd ⟨_, rfl⟩ hv
    · exact h

theorem MapRel.find {M : Mp} {es es' : Array MapEntry} (h : MapRel M es es') {s : Nat} {e : MapEntry} (he : es.toList.find? (·.born == s) = some e) : ∃ e', es'.toList.find? (·.born == s) = some e' ∧ e'.key = e.key ∧ VRel M e.val e'.val := by
  have key : ∀ (l l' : List MapEntry), l.length = l'.length → (∀ j (a : j < l.length) (b : j < l'.length), l[j].key = l'[j].key ∧ l[j].born = l'[j].born ∧ VRel M l[j].val l'[j].val) → l.find? (·.born == s) = some e → ∃ e', l'.find? (·.born == s) = some e' ∧ e'.key = e.key ∧ VRel M e.val e'.val := by
    intro l
    induction l with
    | nil => intro l' _ _ h; simp at h
    | cons x l ih =>
      intro l' hl hr hf
      cases l' with
      | nil => simp at hl
      | cons x' l' =>
        obtain ⟨q1, q2, q3⟩ := hr 0 (by simp) (by simp)
        simp only [List.getElem_cons_zero] at q1 q2 q3
        rw [List.find?_cons] at hf ⊢
        rw [← q2]
        cases hb : (x.born == s)
        · rw [hb] at hf
          exact ih l' (by simpa using hl) (fun j a b => hr (j + 1) (by simpa using a) (by simpa using b)) hf
        · rw [hb] at hf
          obtain rfl := Option.some.inj hf
          exact ⟨x', rfl, q1.symm, q3⟩
  exact key es.toList es'.toList (by simp [h.1]) (fun j a b => by
    simp at a b
    simpa using h.2 j a b) he

theorem run_getObj_iter {P : Program} {w : World} {r : Nat} {m : Option Nat} {a c : Nat} {s : Array Nat} (hb : w.heap[r]? = some (.mapIter m a s c)) : (getObj r).run P w = .ok (.mapIter m a s c) w := by
  simp [getObj, Sem.run, hb]

theorem iter_sound {M : Mp} {h : AHeap} {w : World} (r : Rel M h w) {i m since stepped : Nat} {seen : Array Nat} {b : Blk} (hM : M i = some b) (ho : h.obj i = some (.other (.mapIter (some m) since seen stepped))) :
    ∃ b2, b.base = 0 ∧ M m = some b2 ∧ w.heap[b.blk]? = some (.mapIter (some b2.blk) since seen stepped) := by
  obtain ⟨h0, m', h1, h2⟩ := r.live i _ b ho hM
  cases h2
  rename_i b2 hM2
  exact ⟨b2, h0, hM2, h1⟩

theorem entryR_sound {P : Program} {M : Mp} {h : AHeap} {w : World} {x x' v : Value} (r : Rel M h w) (hx : VRel M x x') (hs : entryR h x = some v) :
    ∃ v', (Instr.entry x').run P w = .ok v' w ∧ VRel M v v' := by
  unfold entryR at hs
  split at hs
  · rename_i i
    split at hs
    · rename_i m since seen stepped ho
      split at hs
      · rename_i stamp es clock hst hm
        split at hs
        · rename_i hcl
          split at hs
          · rename_i e hf
            split at hs
            · rename_i hfl
              obtain rfl := Option.some.inj hs
              cases hx
              rename_i b hM
              obtain ⟨b2, h0, hM2, hw⟩ := iter_sound r hM ho
              obtain ⟨es', hw2, hmr⟩ := r.live m _ b2 hm hM2
              obtain ⟨e', h1, h2, h3⟩ := hmr.find hf
              subst hcl
              refine ⟨.tuple #[e'.key, e'.val], ?_, ?_⟩
              · rw [h0]
                have hf' : es'.find? (·.born == stamp) = some e' := by rw [← Array.find?_toList]; exact h1
                simp only [Instr.entry, Nat.zero_add, Sem.run_bind, run_getObj_iter hw, Result.andThen_ok, hst, MapKept.run_getObj_map hw2, bne_self_eq_false, Bool.false_eq_true, if_false, hf', Sem.run_pure]
              · have := (VRels.single (h2.symm ▸ VRel.refl_flat (M := M) hfl : VRel M e.key e'.key)).append (VRels.single h3)
                exact VRels.tuple (by simpa using this)
            · cases hs
          · cases hs
        · cases hs
      · cases hs
    · cases hs
  · cases hs

/-- A step, whichever entry comes. -/
def nextA (h : AHeap) (x : Value) (K : Value → AHeap → Prop) : Prop :=
  ∃ (i m since : Nat) (seen : Array Nat) (stepped : Nat) (es : Array MapEntry) (clock : Nat), x = .pointer (some ⟨i, 0, none⟩) ∧ h.obj i = some (.other (.mapIter (some m) since seen stepped)) ∧ h.obj m = some (.other (.map es clock)) ∧
    (∀ e ∈ es.toList, e.born < since ∧ flatB e.key = true) ∧ since ≤ stepped ∧ ((∀ e ∈ es.toList, e.born ∈ seen) → K (.tuple #[.bool false]) h) ∧
    ∀ e ∈ es.toList, e.born ∉ seen → K (.tuple #[.bool true, e.key, e.val]) (h.set i (.other (.mapIter (some m) since (seen.push e.born) clock)))

theorem nextA_mono {h : AHeap} {x : Value} {K K' : Value → AHeap → Prop} (k : nextA h x K) (hk : ∀ v h, K v h → K' v h) : nextA h x K' := by
  obtain ⟨i, m, since, seen, stepped, es, clock, q1, q2, q3, q4, q5, q6, q7⟩ := k
  exact ⟨i, m, since, seen, stepped, es, clock, q1, q2, q3, q4, q5, fun q => hk _ _ (q6 q), fun e he q => hk _ _ (q7 e he q)⟩

theorem run_next {P : Program} {w : World} {r bm since last clock : Nat} {seen : Array Nat} {es : Array MapEntry} {ty : TypeId} (hi : w.heap[r]? = some (.mapIter (some bm) since seen last)) (hb : w.heap[bm]? = some (.map es clock))
    (hold : ∀ x ∈ es.toList, x.born < since) (hsc : since ≤ last) :
    ((∀ e ∈ es.toList, e.born ∈ seen) ∧ (Instr.next (.pointer (some ⟨r, 0, none⟩)) false ty).run P w = .ok (.tuple #[.bool false]) w) ∨
    ∃ j, ∃ hj : j < es.size, es[j].born ∉ seen ∧ ∃ w1 : World, w1.heap = w.heap ∧ w1.os = w.os ∧ w1.tape = w.tape ∧ w1.output = w.output ∧
      (Instr.next (.pointer (some ⟨r, 0, none⟩)) false ty).run P w = .ok (.tuple #[.bool true, es[j].key, es[j].val]) ({ w1 with heap := w.heap.setIfInBounds r (.mapIter (some bm) since (seen.push es[j].born) clock) } : World) := by
  simp only [Instr.next, Sem.run_bind, run_getObj_iter hi, MapKept.run_getObj_map hb, Result.andThen_ok, next_test_false seen es since last hold hsc, Bool.false_eq_true, if_false]
  have hmem : ∀ x ∈ (Array.filter (fun e => !seen.contains e.born) es).toList, x.born < since := fun x hx => hold x (by simp at hx ⊢; exact hx.1)
  have hin : ∀ x ∈ Array.filter (fun e => !seen.contains e.born) es, x ∈ es ∧ x.born ∉ seen := fun x hx => by simpa using hx
  have hout : ∀ x ∈ es, x.born ∉ seen → x ∈ Array.filter (fun e => !seen.contains e.born) es := fun x hx h => by simpa using ⟨hx, h⟩
  generalize Array.filter (fun e => !seen.contains e.born) es = L at hmem hin hout ⊢
  have e1 : L.filter (fun x => decide (x.born < since)) = L := Array.filter_eq_self.2 (fun x hx => by simpa using hmem x (by simpa using hx))
  have e2 : L.filter (fun x => decide (x.born ≥ since)) = #[] := by
    rw [Array.filter_eq_empty_iff]
    intro x hx
    have := hmem x (by simpa using hx)
    simp
    omega
  simp only [e1, e2, Array.append_empty]
  by_cases h0 : L.size = 0
  · left
    have : L = #[] := Array.eq_empty_of_size_eq_zero h0
    subst this
    refine ⟨fun e he => ?_, by simp [choose, Sem.run, Question.forced]⟩
    by_cases hs : e.born ∈ seen
    · exact hs
    · have := hout e (by simpa using he) hs
      simp at this
  · right
    have hne : L.isEmpty = false := by simp [Array.isEmpty, h0]
    simp only [hne, Bool.false_eq_true, if_false, Array.empty_append, Array.size_map]
    have hch : ∃ (j : Nat) (w1 : World), j < L.size ∧ w1.heap = w.heap ∧ w1.os = w.os ∧ w1.tape = w.tape ∧ w1.output = w.output ∧ (choose (Question.mapNext L.size)).run P w = .ok j w1 := by
      by_cases hf : L.size ≤ 1
      · exact ⟨0, w, by omega, rfl, rfl, rfl, rfl, by simp [choose, Sem.run, Question.forced, hf]⟩
      · exact ⟨_, { w with drawn := w.drawn + 1 }, Nat.mod_lt _ (by omega), rfl, rfl, rfl, rfl, by
          simp only [choose, Sem.run, Question.forced, decide_eq_true_eq, hf, if_false, Question.cut]; rfl⟩
    obtain ⟨j, w1, hj, q1, q2, q3, q4, hrun⟩ := hch
    obtain ⟨hm1, hm2⟩ := hin L[j] (by simp)
    obtain ⟨n, hn, he⟩ := Array.mem_iff_getElem.1 hm1
    refine ⟨n, hn, by rw [he]; exact hm2, w1, q1, q2, q3, q4, ?_⟩
    have hset : ∀ (o' : Obj), (setObj r o').run P w1 = .ok () { w1 with heap := w1.heap.setIfInBounds r o' } := fun o' => by
      simp only [setObj, Sem.run, q1, hi]
    rw [he]
    simp only [hrun, Array.getElem?_map, Array.getElem?_eq_getElem hj, Option.map_some, Sem.run_bind, hset, Result.andThen, q1, Sem.run_pure]

/-! ### Structs, field by field -/
/-- Two values of such a type are compared as data are. -/
structure EqLaw (P : Program) (t : TypeId) : Prop where
  guard : P.eqGuardType P.depth t = false
  eq : ∀ (w : World) {x y : Value} {lx ly : Lit}, keyOf P t x = some lx → keyOf P t y = some ly → ∃ r : Bool, (Op.equalIn 10000 t x y).run P w = .ok r w ∧ (r = true ↔ x = y)

theorem EqLaw.deep {P : Program} (hl : laidOutB P = true) {m : Nat} (hm : m + 1 ≤ 10000) {k : TypeId} (hrow : k < P.types.size) (hk : P.keyTypeAt m k = true) (hwide : (match P.underlying k with | some (.array _ _) | some (.struct _) => true | _ => false) = true)
    (hg : P.eqGuardType P.depth k = false) : EqLaw P k where
  guard := hg
  eq := fun w {x y lx ly} hx hy => by
    obtain ⟨r, hr, h2⟩ := run_equal_deep w (m := m) (by omega) hk hwide hx hy
    refine ⟨r, hr, h2.trans ⟨fun e => ?_, fun e => ?_⟩⟩
    · subst e; exact (deep_law_laid hl hm hrow hk hwide).inj hx hy
    · subst e; rw [hx] at hy; exact Option.some.inj hy

open Classical in
noncomputable def aggEqR (P : Program) (op : BinOp) (t : TypeId) (x y : Value) : Option Value :=
  if EqLaw P t ∧ flatB x = true ∧ flatB y = true ∧ (∃ cs, x = .agg cs) ∧ (∃ cs, y = .agg cs) ∧ (∃ l, keyOf P t x = some l) ∧ (∃ l, keyOf P t y = some l) then
    match op with
    | .eql => some (.bool (decide (x = y)))
    | .neq => some (.bool (!decide (x = y)))
    | _ => none
  else none

theorem aggEqR_sound {P : Program} {op : BinOp} {t : TypeId} {M : Mp} {x x' y y' v : Value} (xo yo : Operand) (w : World) (hx : VRel M x x') (hy : VRel M y y') (h : aggEqR P op t x y = some v) :
    (do eqGuard op t xo yo x' y'; binOp op t x' y').run P w = .ok v w ∧ VRel M v v := by
  unfold aggEqR at h
  split at h
  · rename_i hc
    obtain ⟨law, f1, f2, ⟨cs, rfl⟩, ⟨ds, rfl⟩, ⟨lx, hlx⟩, ⟨ly, hly⟩⟩ := hc
    have ex := (hx.flat f1).symm
    have ey := (hy.flat f2).symm
    subst ex ey
    obtain ⟨r, hr, hiff⟩ := law.eq w hlx hly
    rw [Sem.run_bind, run_eqGuard_agg (w := w) op t xo yo cs ds law.guard]
    simp only [Result.andThen_ok]
    split at h
    · obtain rfl := Option.some.inj h
      refine ⟨?_, .bool _⟩
      rw [run_eql_struct, hr]
      simp only [Result.andThen_ok]
      congr 2
      by_cases e : (Value.agg cs) = .agg ds
      · simp [e, hiff.2 e]
      · have : r = false := by cases r; rfl; exact absurd (hiff.1 rfl) e
        simp [e, this]
    · obtain rfl := Option.some.inj h
      refine ⟨?_, .bool _⟩
      rw [run_neq_struct, hr]
      simp only [Result.andThen_ok]
      congr 2
      by_cases e : (Value.agg cs) = .agg ds
      · simp [e, hiff.2 e]
      · have : r = false := by cases r; rfl; exact absurd (hiff.1 rfl) e
        simp [e, this]
    · cases h
  · cases h
end Ab
end

section
namespace Ab
open Go
set_option autoImplicit false
set_option linter.unusedVariables false
set_option linter.unusedSimpArgs false

/-! ### Operands in rows -/
def evs (ρ : Operand → Option Value) : List Operand → Option (List Value)
  | [] => some []
  | x :: l => (ρ x).bind fun v => (evs ρ l).bind fun r => some (v :: r)

def evParts (ρ : Operand → Option Value) : List (Nat × Operand) → Option (List (Nat × Value))
  | [] => some []
  | (i, x) :: l => (ρ x).bind fun v => if v.known then (evParts ρ l).bind fun r => some ((i, v) :: r) else none

def evO (ρ : Operand → Option Value) : Option Operand → Option (Option Value)
  | none => some none
  | some x => (ρ x).map some

section
variable {M : Mp} {s : St} {h : AHeap} {a : Act} {w : World} (sr : SRel M s a) (r : Rel M h w)
include sr r
theorem evs_sound : ∀ {l : List Operand} {vs : List Value}, evs (ev h.base s) l = some vs → VRels M vs.toArray (l.map a.eval).toArray
  | [], vs, e => by simp only [evs, Option.some.injEq] at e; subst e; exact VRels.nil
  | x :: l, vs, e => by
    simp only [evs, Option.bind_eq_some_iff, Option.some.injEq] at e
    obtain ⟨v, hv, rs, hr, rfl⟩ := e
    have h1 := ev_sound sr r hv
    have h2 := evs_sound hr
    have := (VRels.single h1).append h2
    simpa using this
theorem evParts_sound : ∀ {l : List (Nat × Operand)} {vs : List (Nat × Value)}, evParts (ev h.base s) l = some vs → PRels M vs (l.map fun p => (p.1, a.eval p.2))
  | [], vs, e => by simp only [evParts, Option.some.injEq] at e; subst e; exact .nil
  | (i, x) :: l, vs, e => by
    simp only [evParts, Option.bind_eq_some_iff] at e
    obtain ⟨v, hv, e⟩ := e
    split at e
    · rename_i hk
      simp only [Option.bind_eq_some_iff, Option.some.injEq] at e
      obtain ⟨rs, hr, rfl⟩ := e
      exact .cons i v _ rs _ (ev_sound sr r hv) hk (evParts_sound hr)
    · cases e
theorem evO_sound {x : Option Operand} {v : Option Value} (e : evO (ev h.base s) x = some v) : ORel M v (x.map a.eval) := by
  cases x with
  | none => simp only [evO, Option.some.injEq] at e; subst e; exact .none
  | some x =>
    simp only [evO, Option.map_eq_some_iff] at e
    obtain ⟨u, hu, rfl⟩ := e
    exact .some _ _ (ev_sound sr r hu)
end

/-! ### One operation -/
/-- What only reads. -/
def convR (P : Program) (h : AHeap) (src dst : TypeId) (v : Value) : Option Value :=
  match v with
  | .int _ _ => convP P src dst v
  | .string _ => convP P src dst v
  | .slice _ _ _ => match strR P h src dst v with
    | some u => some u
    | none => convS P h src dst v
  | _ => none

def builtinR (P : Program) (h : AHeap) (b : Builtin) (ts : Array TypeId) (vs : List Value) : Option Value :=
  match b, vs with
  | .len, [v] => (ts[0]?).bind fun t => lenE P h t v
  | .min, x :: l => foldA min2A x l
  | .max, x :: l => foldA max2A x l
  | _, _ => none

noncomputable def evalR (P : Program) (h : AHeap) (s : St) (o : Op) : Option Value :=
  match o with
  | .move x => ev h.base s x
  | .assign x => ev h.base s x
  | .pick c x y => (ev h.base s c).bind fun c => match c with
    | .bool b => if b then ev h.base s x else ev h.base s y
    | _ => none
  | .binOp op t x y _ => (ev h.base s x).bind fun v => (ev h.base s y).bind fun u => match binA P op t v u with
    | some r => some r
    | none => aggEqR P op t v u
  | .lookup t x i ok => (ev h.base s x).bind fun v => (ev h.base s i).bind fun u => lookupR P h t v u ok
  | .entry x => (ev h.base s x).bind fun v => entryR h v
  | .unOp op _ x => (ev h.base s x).bind fun v => unA op v
  | .convert src dst x => (ev h.base s x).bind fun v => convR P h src dst v
  | .field t x f => (ev h.base s x).bind fun v => fieldP P t f v
  | .extract x i => (ev h.base s x).bind fun v => extractP i v
  | .index t x i => (ev h.base s x).bind fun v => (ev h.base s i).bind fun u => indexP P t v u
  | .nilCheck x => (ev h.base s x).bind fun v => nilCheckP v
  | .fieldAddr t x f => (ev h.base s x).bind fun v => fieldAddrP P t f v
  | .indexAddr t x i => (ev h.base s x).bind fun v => (ev h.base s i).bind fun u => indexAddrP P t v u
  | .load t x => (ev h.base s x).bind fun v => loadR P h t v
  | .build t ps => (evParts (ev h.base s) ps.toList).bind fun l => buildP P t l
  | .slice t x lo hi mx => (ev h.base s x).bind fun v => (evO (ev h.base s) lo).bind fun lo => (evO (ev h.base s) hi).bind fun hi => (evO (ev h.base s) mx).bind fun mx => sliceR P h t v lo hi mx
  | .makeInterface t x => if P.concrete t then (ev h.base s x).map fun v => .iface t v else none
  | .makeFunc fn first cap => (evs (ev h.base s) first.toList).bind fun f => (evs (ev h.base s) cap.toList).map fun c => .func fn f.toArray c.toArray
  | .call { callee := .builtin b, args, argTypes } => (evs (ev h.base s) args.toList).bind fun vs => builtinR P h b argTypes vs
  | _ => none

/-- What makes one new object, whose number `id` is to be. -/
def evalA (P : Program) (id base : Nat) (s : St) (o : Op) : Option (Value × AObj) :=
  match o with
  | .alloc e => allocA P id e
  | .box e x => (ev base s x).bind fun v => boxA id e v
  | .buildSlice t n ps => (evParts (ev base s) ps.toList).bind fun l => buildSliceA P id t n l
  | .makeSlice t l c => (ev base s l).bind fun v => (ev base s c).bind fun u => makeSliceA P id t v u
  | .convert src dst x => (ev base s x).bind fun v => bytesA P id src dst v
  | .makeMap _ none => some (.map (some id), .other (.map #[] 0))
  | _ => none

/-- What writes. -/
noncomputable def evalW (P : Program) (h : AHeap) (s : St) (o : Op) : Option (Value × AHeap) :=
  match o with
  | .store t x y => (ev h.base s x).bind fun v => (ev h.base s y).bind fun u => (storeW P h t v u).map (undef, ·)
  | .call { callee := .builtin .append, args, argTypes } => match argTypes.toList with
    | [t, xt] => match args.toList with
      | [x, y] => (ev h.base s x).bind fun v => (ev h.base s y).bind fun u => appendW P h t xt v u
      | _ => none
    | _ => none
  | .call { callee := .builtin .delete, args, argTypes } => match argTypes.toList with
    | [t, _] => match args.toList with
      | [x, y] => (ev h.base s x).bind fun v => (ev h.base s y).bind fun u => (delW P h t v u).map (.tuple #[], ·)
      | _ => none
    | _ => none
  | .call { callee := .builtin .copy, args, argTypes } => match argTypes.toList with
    | [t, _] => match args.toList with
      | [x, y] => (ev h.base s x).bind fun v => (ev h.base s y).bind fun u => copyW P h t v u
      | _ => none
    | _ => none
  | .call { callee := .builtin .clear, args, argTypes } => match argTypes.toList with
    | [t] => match args.toList with
      | [x] => (ev h.base s x).bind fun v => (clearW P h t v).map (.tuple #[], ·)
      | _ => none
    | _ => none
  | .mapUpdate t m k x => (ev h.base s m).bind fun v => (ev h.base s k).bind fun u => (ev h.base s x).bind fun y => (mapUpdW P h t v u y).map (undef, ·)
  | .insert t m k x => (ev h.base s m).bind fun v => (ev h.base s k).bind fun u => (ev h.base s x).bind fun y => (mapUpdW P h t v u y).map (undef, ·)
  | .range t x => (ev h.base s x).bind fun v => rangeW P h t v
  | _ => none

theorem toArray_map {α β : Type} (f : α → β) (x : Array α) : (x.toList.map f).toArray = x.map f := by
  apply Array.ext'
  rw [Array.toList_map]

theorem VRel.undef (M : Mp) : VRel M undef undef := .tuple _ _ rfl fun j h => absurd h (by simp)

theorem run_v {P : Program} {w : World} {x : Sem Value} {u : Value} {w' : World} (e : x.run P w = .ok u w') : (do pure (Next.value (← x)) : Sem Next).run P w = .ok (.value u) w' := by
  rw [Sem.run_bind, e]; rfl

section
variable {P : Program} {M : Mp} {s : St} {h h' : AHeap} {a : Act} {w : World} {o : Oper} {v : Value}

/-- What a reading operation comes to. -/
def GivesR (P : Program) (o : Oper) (M : Mp) (h : AHeap) (a : Act) (w : World) (v : Value) : Prop :=
  ∃ w' vc, (execOp a.eval o).run P w = .ok (.value vc) w' ∧ VRel M v vc ∧ Rel M h w' ∧ Post M h w M h w'

theorem GivesR.pure {v vc : Value} (r : Rel M h w) (e : (execOp a.eval o).run P w = .ok (.value vc) w) (hv : VRel M v vc) : GivesR P o M h a w v :=
  ⟨w, vc, e, hv, r, Post.refl _ _ _⟩

theorem evalR_sound (sr : SRel M s a) (r : Rel M h w) (e : evalR P h s o.op = some v) : GivesR P o M h a w v := by
  unfold evalR at e
  split at e
  case _ x hop =>   -- move
    exact .pure r (by simp [execOp, hop]) (ev_sound sr r e)
  case _ x hop =>   -- assign
    exact .pure r (by simp [execOp, hop]) (ev_sound sr r e)
  case _ c x y hop =>   -- pick
    simp only [Option.bind_eq_some_iff] at e
    obtain ⟨cv, hc, e⟩ := e
    split at e
    · rename_i b
      have hcv := ev_sound sr r hc
      have hce : a.eval c = .bool b := by generalize a.eval c = q at hcv; cases hcv; rfl
      cases b
      · exact .pure r (by simp [execOp, hop, hce, asBool, Result.andThen]) (ev_sound sr r e)
      · exact .pure r (by simp [execOp, hop, hce, asBool, Result.andThen]) (ev_sound sr r e)
    · cases e
  case _ op t x y yt hop =>   -- binOp
    simp only [Option.bind_eq_some_iff] at e
    obtain ⟨p, hp, q, hq, hu⟩ := e
    obtain ⟨h1, h2⟩ : (do eqGuard op t x y (a.eval x) (a.eval y); binOp op t (a.eval x) (a.eval y)).run P w = .ok v w ∧ VRel M v v := by
      split at hu
      · rename_i r1 hr1
        obtain rfl := Option.some.inj hu
        exact run_bin (P := P) x y w (ev_sound sr r hp) (ev_sound sr r hq) hr1
      · exact aggEqR_sound (P := P) x y w (ev_sound sr r hp) (ev_sound sr r hq) hu
    refine .pure r ?_ h2
    simp only [execOp, hop]
    exact run_v h1
  case _ t x i ok hop =>   -- lookup
    simp only [Option.bind_eq_some_iff] at e
    obtain ⟨p, hp, q, hq, hu⟩ := e
    obtain ⟨u', h1, h2⟩ := lookupR_sound (P := P) r (ev_sound sr r hp) (ev_sound sr r hq) hu
    exact .pure r (by simp only [execOp, hop]; exact run_v h1) h2
  case _ x hop =>   -- entry
    simp only [Option.bind_eq_some_iff] at e
    obtain ⟨p, hp, hu⟩ := e
    obtain ⟨u', h1, h2⟩ := entryR_sound (P := P) r (ev_sound sr r hp) hu
    exact .pure r (by simp only [execOp, hop]; exact run_v h1) h2
  case _ op t x hop =>   -- unOp
    simp only [Option.bind_eq_some_iff] at e
    obtain ⟨p, hp, hu⟩ := e
    obtain ⟨h1, h2⟩ := unA_sound (P := P) w (ev_sound sr r hp) hu
    refine .pure r ?_ h2
    simp only [execOp, hop]
    exact run_v h1
  case _ src dst x hop =>   -- convert
    simp only [Option.bind_eq_some_iff] at e
    obtain ⟨p, hp, e⟩ := e
    have hx := ev_sound sr r hp
    unfold convR at e
    split at e
    · obtain ⟨h1, h2⟩ := convP_sound (P := P) w hx e
      exact .pure r (by simp only [execOp, hop]; exact run_v h1) h2
    · obtain ⟨h1, h2⟩ := convP_sound (P := P) w hx e
      exact .pure r (by simp only [execOp, hop]; exact run_v h1) h2
    · split at e
      · rename_i u hu
        obtain rfl := Option.some.inj e
        obtain ⟨h1, h2⟩ := strR_sound (P := P) r hx hu
        exact .pure r (by simp only [execOp, hop]; exact run_v h1) h2
      · obtain ⟨u', w', h1, h2, h3, h4⟩ := convS_sound (P := P) r hx e
        exact ⟨w', u', by simp only [execOp, hop]; exact run_v h1, h2, h3, h4⟩
    · cases e
  case _ t x f hop =>   -- field
    simp only [Option.bind_eq_some_iff] at e
    obtain ⟨p, hp, hu⟩ := e
    obtain ⟨u', h1, h2⟩ := fieldP_sound (P := P) w (ev_sound sr r hp) hu
    exact .pure r (by simp only [execOp, hop]; exact run_v h1) h2
  case _ x i hop =>   -- extract
    simp only [Option.bind_eq_some_iff] at e
    obtain ⟨p, hp, hu⟩ := e
    obtain ⟨u', h1, h2⟩ := extractP_sound (P := P) w (ev_sound sr r hp) hu
    exact .pure r (by simp only [execOp, hop]; exact run_v h1) h2
  case _ t x i hop =>   -- index
    simp only [Option.bind_eq_some_iff] at e
    obtain ⟨p, hp, q, hq, hu⟩ := e
    obtain ⟨u', h1, h2⟩ := indexP_sound (P := P) w (ev_sound sr r hp) (ev_sound sr r hq) hu
    exact .pure r (by simp only [execOp, hop]; exact run_v h1) h2
  case _ x hop =>   -- nilCheck
    simp only [Option.bind_eq_some_iff] at e
    obtain ⟨p, hp, hu⟩ := e
    have hx := ev_sound sr r hp
    obtain ⟨rfl, hc⟩ := nilCheckP_sound hx hu
    refine .pure r ?_ hx
    rcases hc with ⟨x', he⟩ | ⟨x', n, c, he⟩ | ⟨f, x', y', he⟩ | ⟨t, x', he⟩ | ⟨x', he⟩ <;> simp [execOp, hop, he]
  case _ t x f hop =>   -- fieldAddr
    simp only [Option.bind_eq_some_iff] at e
    obtain ⟨p, hp, hu⟩ := e
    obtain ⟨u', h1, h2⟩ := fieldAddrP_sound (P := P) w (ev_sound sr r hp) hu
    exact .pure r (by simp only [execOp, hop]; exact run_v h1) h2
  case _ t x i hop =>   -- indexAddr
    simp only [Option.bind_eq_some_iff] at e
    obtain ⟨p, hp, q, hq, hu⟩ := e
    obtain ⟨u', h1, h2⟩ := indexAddrP_sound (P := P) w (ev_sound sr r hp) (ev_sound sr r hq) hu
    exact .pure r (by simp only [execOp, hop]; exact run_v h1) h2
  case _ t x hop =>   -- load
    simp only [Option.bind_eq_some_iff] at e
    obtain ⟨p, hp, hu⟩ := e
    obtain ⟨u', h1, h2⟩ := loadR_sound (P := P) r (ev_sound sr r hp) hu
    exact .pure r (by simp only [execOp, hop]; exact run_v h1) h2
  case _ t ps hop =>   -- build
    simp only [Option.bind_eq_some_iff] at e
    obtain ⟨l, hl, hu⟩ := e
    obtain ⟨u', h1, h2⟩ := buildP_sound (P := P) w (evParts_sound sr r hl) hu
    refine .pure r ?_ h2
    simp only [execOp, hop]
    refine run_v ?_
    rw [← h1, toArray_map]
  case _ t x lo hi mx hop =>   -- slice
    simp only [Option.bind_eq_some_iff] at e
    obtain ⟨p, hp, q1, hq1, q2, hq2, q3, hq3, hu⟩ := e
    obtain ⟨u', h1, h2⟩ := sliceR_sound (P := P) r (ev_sound sr r hp) (evO_sound sr r hq1) (evO_sound sr r hq2) (evO_sound sr r hq3) hu
    exact .pure r (by simp only [execOp, hop]; exact run_v h1) h2
  case _ t x hop =>   -- makeInterface
    split at e
    · rename_i hc
      simp only [Option.map_eq_some_iff] at e
      obtain ⟨p, hp, rfl⟩ := e
      exact .pure r (by simp only [execOp, hop]; exact run_v (run_makeInterface w t _ hc)) (.iface t _ _ (ev_sound sr r hp))
    · cases e
  case _ fn first cap hop =>   -- makeFunc
    simp only [Option.bind_eq_some_iff, Option.map_eq_some_iff] at e
    obtain ⟨f, hf, c, hc, rfl⟩ := e
    have h1 := evs_sound sr r hf
    have h2 := evs_sound sr r hc
    refine .pure r (vc := .func fn (first.map a.eval) (cap.map a.eval)) (by simp [execOp, hop, Instr.makeFunc, Result.andThen]) ?_
    have e1 := toArray_map a.eval first
    have e2 := toArray_map a.eval cap
    rw [e1] at h1; rw [e2] at h2
    exact .func fn _ _ _ _ h1.1 h1.2 h2.1 h2.2
  case _ b args ts hop =>   -- a builtin
    simp only [Option.bind_eq_some_iff] at e
    obtain ⟨vs, hvs, e⟩ := e
    have hr := evs_sound sr r hvs
    have eargs := toArray_map a.eval args
    rw [eargs] at hr
    generalize hargs : args.map a.eval = cargs at hr
    have hexec : ∀ {x : Sem Value} {u : Value}, (∀ consts, builtin b ts o.type consts cargs = (do pure (Next.value (← x)))) → x.run P w = .ok u w → (execOp a.eval o).run P w = .ok (.value u) w := by
      intro x u h0 h1
      simp only [execOp, hop, resolve, Sem.run_bind, Sem.run_pure, Result.andThen, invoke, hargs]
      rw [h0]
      exact run_v h1
    unfold builtinR at e
    split at e
    · -- len
      rename_i x
      simp only [Option.bind_eq_some_iff] at e
      obtain ⟨t, ht, hu⟩ := e
      obtain ⟨x', rfl⟩ : ∃ x', cargs = #[x'] := by
        have := hr.1; simp at this
        exact Array.size_eq_one_iff.1 this.symm
      obtain ⟨h1, h2⟩ := lenE_sound (P := P) (ty := o.type) r (hr.2 0 (by simp) (by simp)) hu ht
      exact .pure r (hexec (fun _ => rfl) h1) h2
    · -- min
      rename_i x l
      obtain ⟨x', l', rfl⟩ : ∃ x' l', cargs = (x' :: l').toArray := by
        rcases cargs with ⟨_ | ⟨x', l'⟩⟩
        · have := hr.1; simp at this
        · exact ⟨x', l', rfl⟩
      obtain ⟨hx, hl⟩ := hr.tail
      obtain ⟨h1, h2⟩ := foldA_sound (P := P) (M := M) (w := w) (g := Builtin.min2) (fun x y z => min2A_sound x y z) l l' x x' v hx hl e
      exact .pure r (hexec (fun _ => rfl) h1) h2
    · -- max
      rename_i x l
      obtain ⟨x', l', rfl⟩ : ∃ x' l', cargs = (x' :: l').toArray := by
        rcases cargs with ⟨_ | ⟨x', l'⟩⟩
        · have := hr.1; simp at this
        · exact ⟨x', l', rfl⟩
      obtain ⟨hx, hl⟩ := hr.tail
      obtain ⟨h1, h2⟩ := foldA_sound (P := P) (M := M) (w := w) (g := Builtin.max2) (fun x y z => max2A_sound x y z) l l' x x' v hx hl e
      exact .pure r (hexec (fun _ => rfl) h1) h2
    · cases e
  case _ => cases e

/-- The same of the operation as a whole: one new object. -/
def GivesA (P : Program) (o : Oper) (M : Mp) (a : Act) (w : World) (id : Nat) (v : Value) (ob : AObj) : Prop :=
  ∃ (vc : Value) (w1 : World) (co : Obj) (sz esz : Nat) (op : Bool), (execOp a.eval o).run P w = .ok (.value vc) ({ w1 with heap := w.heap.push co } : World) ∧ w1.heap = w.heap ∧ w1.os = w.os ∧ w1.tape = w.tape ∧ w1.output = w.output ∧
    ∀ M', M.le M' → M' id = some ⟨w.heap.size, 0, sz, esz, op⟩ → VRel M' v vc ∧ ObjRel M' ⟨w.heap.size, 0, sz, esz, op⟩ ({ w1 with heap := w.heap.push co } : World) ob

theorem AllocOk.gives {id : Nat} {x : Sem Value} {ob : AObj} (k : AllocOk P M w id x v ob) (hx : execOp a.eval o = (do pure (Next.value (← x)))) : GivesA P o M a w id v ob := by
  obtain ⟨vc, w1, co, sz, esz, op, h1, h2⟩ := k
  exact ⟨vc, w1, co, sz, esz, op, by rw [hx]; exact run_v h1, h2⟩

theorem evalA_sound {id : Nat} {ob : AObj} (sr : SRel M s a) (r : Rel M h w) (e : evalA P id h.base s o.op = some (v, ob)) : GivesA P o M a w id v ob := by
  unfold evalA at e
  split at e
  case _ t hop => exact (allocA_sound e).gives (by simp only [execOp, hop])
  case _ t x hop =>
    simp only [Option.bind_eq_some_iff] at e
    obtain ⟨p, hp, e⟩ := e
    exact (boxA_sound (ev_sound sr r hp) e).gives (by simp only [execOp, hop])
  case _ t n ps hop =>
    simp only [Option.bind_eq_some_iff] at e
    obtain ⟨l, hl, e⟩ := e
    refine (buildSliceA_sound (evParts_sound sr r hl) e).gives ?_
    simp only [execOp, hop, toArray_map]
  case _ t l c hop =>
    simp only [Option.bind_eq_some_iff] at e
    obtain ⟨p, hp, q, hq, e⟩ := e
    exact (makeSliceA_sound (ev_sound sr r hp) (ev_sound sr r hq) e).gives (by simp only [execOp, hop])
  case _ src dst x hop =>
    simp only [Option.bind_eq_some_iff] at e
    obtain ⟨p, hp, e⟩ := e
    exact (bytesA_sound (ev_sound sr r hp) e).gives (by simp only [execOp, hop])
  case _ t hop =>
    simp only [Option.some.injEq, Prod.mk.injEq] at e
    obtain ⟨rfl, rfl⟩ := e
    refine ⟨.map (some w.heap.size), w, .map #[] 0, 0, 1, false, ?_, rfl, rfl, rfl, rfl, fun M' hle hid => ⟨.map id _ hid, ⟨#[], by simp, rfl, fun j h => by simp at h⟩⟩⟩
    simp only [execOp, hop]
    refine run_v ?_
    simp [Instr.makeMap, newObj, Sem.run, Result.andThen]
  case _ => cases e

/-- What an operation comes to: a value, or nothing ('undef'). -/
def Gives (P : Program) (o : Oper) (M : Mp) (h : AHeap) (a : Act) (w : World) (v : Value) (h' : AHeap) : Prop :=
  ∃ w' M' vc, ((execOp a.eval o).run P w = .ok (.value vc) w' ∨ ((execOp a.eval o).run P w = .ok .skip w' ∧ vc = undef)) ∧ VRel M' v vc ∧ Rel M' h' w' ∧ Post M h w M' h' w'

theorem evalW_sound (sr : SRel M s a) (r : Rel M h w) (e : evalW P h s o.op = some (v, h')) : Gives P o M h a w v h' := by
  unfold evalW at e
  split at e
  case _ t x y hop =>
    simp only [Option.bind_eq_some_iff, Option.map_eq_some_iff, Prod.mk.injEq] at e
    obtain ⟨p, hp, q, hq, h2, hs, rfl, rfl⟩ := e
    obtain ⟨w', h1, h3, h4⟩ := storeW_sound (P := P) r (ev_sound sr r hp) (ev_sound sr r hq) hs
    refine ⟨w', M, undef, .inr ⟨?_, rfl⟩, VRel.undef M, h3, h4⟩
    simp only [execOp, hop, Sem.run_bind, h1, Result.andThen, Sem.run_pure]
  case _ args ts hop =>
    split at e
    · rename_i t xt hts
      split at e
      · rename_i x y hargs
        simp only [Option.bind_eq_some_iff] at e
        obtain ⟨p, hp, q, hq, e⟩ := e
        have hts2 : ts = #[t, xt] := by rw [← Array.toArray_toList (xs := ts), hts]
        have har2 : args = #[x, y] := by rw [← Array.toArray_toList (xs := args), hargs]
        subst hts2 har2
        obtain ⟨u', w', M', h1, h2, h3, h4⟩ := appendW_sound (P := P) (ty := o.type) r (ev_sound sr r hp) (ev_sound sr r hq) e
        refine ⟨w', M', u', .inl ?_, h2, h3, h4⟩
        have e2 : (#[x, y] : Array Operand).map a.eval = #[a.eval x, a.eval y] := by simp
        simp only [execOp, hop, resolve, Sem.run_bind, Sem.run_pure, Result.andThen, invoke, e2]
        exact run_v h1
      · cases e
    · cases e
  case _ args ts hop =>   -- delete
    split at e
    · rename_i t xt hts
      split at e
      · rename_i x y hargs
        simp only [Option.bind_eq_some_iff, Option.map_eq_some_iff, Prod.mk.injEq] at e
        obtain ⟨p, hp, q, hq, h2, hs, rfl, rfl⟩ := e
        have hts2 : ts = #[t, xt] := by rw [← Array.toArray_toList (xs := ts), hts]
        have har2 : args = #[x, y] := by rw [← Array.toArray_toList (xs := args), hargs]
        subst hts2 har2
        obtain ⟨w', h1, h3, h4⟩ := delW_sound (P := P) (ty := o.type) (ts := #[t, xt]) r (ev_sound sr r hp) (ev_sound sr r hq) rfl hs
        refine ⟨w', M, .tuple #[], .inl ?_, VRel.undef M, h3, h4⟩
        have e2 : (#[x, y] : Array Operand).map a.eval = #[a.eval x, a.eval y] := by simp
        simp only [execOp, hop, resolve, Sem.run_bind, Sem.run_pure, Result.andThen, invoke, e2]
        exact run_v h1
      · cases e
    · cases e
  case _ args ts hop =>   -- copy
    split at e
    · rename_i t xt hts
      split at e
      · rename_i x y hargs
        simp only [Option.bind_eq_some_iff] at e
        obtain ⟨p, hp, q, hq, e⟩ := e
        have hts2 : ts = #[t, xt] := by rw [← Array.toArray_toList (xs := ts), hts]
        have har2 : args = #[x, y] := by rw [← Array.toArray_toList (xs := args), hargs]
        subst hts2 har2
        obtain ⟨u', w', h1, h2, h3, h4⟩ := copyW_sound (P := P) (ty := o.type) r (ev_sound sr r hp) (ev_sound sr r hq) e
        refine ⟨w', M, u', .inl ?_, h2, h3, h4⟩
        have e2 : (#[x, y] : Array Operand).map a.eval = #[a.eval x, a.eval y] := by simp
        simp only [execOp, hop, resolve, Sem.run_bind, Sem.run_pure, Result.andThen, invoke, e2]
        exact run_v h1
      · cases e
    · cases e
  case _ args ts hop =>   -- clear
    split at e
    · rename_i t hts
      split at e
      · rename_i x hargs
        simp only [Option.bind_eq_some_iff, Option.map_eq_some_iff, Prod.mk.injEq] at e
        obtain ⟨p, hp, h2, hs, rfl, rfl⟩ := e
        have hts2 : ts = #[t] := by rw [← Array.toArray_toList (xs := ts), hts]
        have har2 : args = #[x] := by rw [← Array.toArray_toList (xs := args), hargs]
        subst hts2 har2
        obtain ⟨w', h1, h3, h4⟩ := clearW_sound (P := P) (ty := o.type) (ts := #[t]) r (ev_sound sr r hp) rfl hs
        refine ⟨w', M, .tuple #[], .inl ?_, VRel.undef M, h3, h4⟩
        have e2 : (#[x] : Array Operand).map a.eval = #[a.eval x] := by simp
        simp only [execOp, hop, resolve, Sem.run_bind, Sem.run_pure, Result.andThen, invoke, e2]
        exact run_v h1
      · cases e
    · cases e
  case _ t m k x hop =>   -- mapUpdate
    simp only [Option.bind_eq_some_iff, Option.map_eq_some_iff, Prod.mk.injEq] at e
    obtain ⟨p, hp, q, hq, y, hy, h2, hs, rfl, rfl⟩ := e
    obtain ⟨w', h1, h3, h4⟩ := mapUpdW_sound (P := P) r (ev_sound sr r hp) (ev_sound sr r hq) (ev_sound sr r hy) hs
    refine ⟨w', M, undef, .inr ⟨?_, rfl⟩, VRel.undef M, h3, h4⟩
    simp only [execOp, hop, Sem.run_bind, h1, Result.andThen, Sem.run_pure]
  case _ t m k x hop =>   -- insert
    simp only [Option.bind_eq_some_iff, Option.map_eq_some_iff, Prod.mk.injEq] at e
    obtain ⟨p, hp, q, hq, y, hy, h2, hs, rfl, rfl⟩ := e
    obtain ⟨w', h1, h3, h4⟩ := mapUpdW_sound (P := P) r (ev_sound sr r hp) (ev_sound sr r hq) (ev_sound sr r hy) hs
    refine ⟨w', M, undef, .inr ⟨?_, rfl⟩, VRel.undef M, h3, h4⟩
    simp only [execOp, hop, Sem.run_bind, h1, Result.andThen, Sem.run_pure]
  case _ t x hop =>   -- range
    simp only [Option.bind_eq_some_iff] at e
    obtain ⟨p, hp, hs⟩ := e
    obtain ⟨v', w', M', h1, h2, h3, h4⟩ := rangeW_sound (P := P) r (ev_sound sr r hp) hs
    exact ⟨w', M', v', .inl (by simp only [execOp, hop]; exact run_v h1), h2, h3, h4⟩
  case _ => cases e

noncomputable def evalOp (P : Program) (h : AHeap) (s : St) (o : Op) : Option (Value × AHeap) :=
  match evalR P h s o with
  | some v => some (v, h)
  | none => match evalA P h.next h.base s o with
    | some (v, ob) => some (v, h.push ob)
    | none => evalW P h s o

theorem evalOp_sound (sr : SRel M s a) (r : Rel M h w) (e : evalOp P h s o.op = some (v, h')) : Gives P o M h a w v h' := by
  unfold evalOp at e
  split at e
  · rename_i u hu
    simp only [Option.some.injEq, Prod.mk.injEq] at e
    obtain ⟨rfl, rfl⟩ := e
    obtain ⟨w', vc, h1, h2, h3, h4⟩ := evalR_sound sr r hu
    exact ⟨w', M, vc, .inl h1, h2, h3, h4⟩
  · split at e
    · rename_i u ob hu
      simp only [Option.some.injEq, Prod.mk.injEq] at e
      obtain ⟨rfl, rfl⟩ := e
      obtain ⟨vc, w1, co, sz, esz, op, h1, g1, g2, g3, g4, h2⟩ := evalA_sound sr r hu
      have r1 : Rel M h w1 := r.world g1
      have hk := h2 (upd M h.next ⟨w.heap.size, 0, sz, esz, op⟩) (upd_le (r.fresh _ (Nat.le_refl _))) (upd_self _ _ _)
      have hsz : w1.heap.size = w.heap.size := by rw [g1]
      obtain ⟨r2, p2⟩ := r1.alloc (o := ob) (co := co) (sz := sz) (esz := esz) (op := op) (by rw [hsz, g1]; exact hk.2)
      rw [hsz, g1] at r2 p2
      exact ⟨_, _, vc, .inl h1, hk.1, r2, (Post.world (M := M) (h := h) (w := w) (w' := w1) g1 g2 g3 g4).trans p2⟩
    · exact evalW_sound sr r e
end
end Ab
end

section
namespace Ab
open Go
set_option autoImplicit false
set_option linter.unusedVariables false
set_option linter.unusedSimpArgs false

/-! ### Functions of Go's library that have no body: bytealg.Count, bytealg.IndexByte -/
inductive Ex where
  | count
  | index
def Ex.fn : Ex → Array Value → Sem Value
  | .count => Extern.BytealgCount.count
  | .index => Extern.BytealgIndexByte.indexByte
/-- Function g is e. -/
def ExRow (P : Program) (g : FuncId) (e : Ex) : Prop :=
  ∃ fn, P.funcs[g]? = some fn ∧ (fn.name == "runtime.NumGoroutine") = false ∧ fn.body.isNone = true ∧ Extern.findNext fn = none ∧ Extern.find fn = some e.fn
/-- The bytes of a slice or of a text. -/
def bytesV (h : AHeap) : Value → Option (List UInt8)
  | .string s => some s.data.toList
  | .slice none _ _ => some []
  | .slice (some ⟨i, off, none⟩) len _ => match h.obj i with
    | some (.row c _ _ _ _) => if off + len ≤ c.length then bytesOf ((c.drop off).take len) else none
    | _ => none
  | _ => none
def Ex.val : Ex → List UInt8 → UInt8 → Value
  | .count, bs, c => .int .i64 (Lib.countByte bs c)
  | .index, bs, c => .int .i64 (Lib.indexByte bs c)
def exV (h : AHeap) (e : Ex) : List Value → Option Value
  | [v, .int .u8 c] => (bytesV h v).map fun bs => e.val bs c.toNat.toUInt8
  | _ => none

theorem run_ex_string {P : Program} (e : Ex) (s : ByteArray) (c : Int) (w : World) : (e.fn #[.string s, .int .u8 c]).run P w = .ok (e.val s.data.toList c.toNat.toUInt8) w := by
  cases e
  · exact Lib.run_countString s c w
  · exact Lib.run_indexByteString s c w
theorem run_ex_slice {P : Program} (e : Ex) (a : Addr) (xs : List Int) (n cap : Nat) (hn : xs.length = n) (w : World) (hc : ∀ j x, xs[j]? = some x → w.cell? (a.add j) = some (.int .u8 x)) (cv : Int) :
    (e.fn #[.slice (some a) n cap, .int .u8 cv]).run P w = .ok (e.val (Lib.bytesOf xs) cv.toNat.toUInt8) w := by
  have hl := Lib.run_loadBytesX (P := P) w xs a .empty hc
  rw [hn] at hl
  have hs := run_ex_string (P := P) e ⟨(Lib.bytesOf xs).toArray⟩ cv w
  have he : (⟨ByteArray.empty.data ++ (Lib.bytesOf xs).toArray⟩ : ByteArray) = ⟨(Lib.bytesOf xs).toArray⟩ := by
    apply ByteArray.ext
    show (#[] : Array UInt8) ++ (Lib.bytesOf xs).toArray = (Lib.bytesOf xs).toArray
    simp
  rw [he] at hl
  cases e
  · change Sem.run P (do
      let b ← Extern.Bytes.bytesOf (.slice (some a) n cap)
      let c' ← Extern.Bytes.asByte (.int .u8 cv)
      pure (goInt (b.foldl (fun n x => if x == c' then n + 1 else n) (0 : Nat)))) w = _
    change Sem.run P (do
      let b ← Extern.Bytes.bytesOf (.string ⟨(Lib.bytesOf xs).toArray⟩)
      let c' ← Extern.Bytes.asByte (.int .u8 cv)
      pure (goInt (b.foldl (fun n x => if x == c' then n + 1 else n) (0 : Nat)))) w = _ at hs
    simp only [Extern.Bytes.bytesOf, Sem.run_bind, Sem.run_pure, hl, Result.andThen] at hs ⊢
    simpa using hs
  · change Sem.run P (do
      let b ← Extern.Bytes.bytesOf (.slice (some a) n cap)
      let c ← Extern.Bytes.asByte (.int .u8 cv)
      match (List.range b.size).find? fun i => b[i]! == c with
      | some i => pure (goInt i)
      | none => pure (goInt (-1))) w = _
    change Sem.run P (do
      let b ← Extern.Bytes.bytesOf (.string ⟨(Lib.bytesOf xs).toArray⟩)
      let c ← Extern.Bytes.asByte (.int .u8 cv)
      match (List.range b.size).find? fun i => b[i]! == c with
      | some i => pure (goInt i)
      | none => pure (goInt (-1))) w = _ at hs
    simp only [Extern.Bytes.bytesOf, Sem.run_bind, Sem.run_pure, hl, Result.andThen] at hs ⊢
    simpa using hs
theorem run_ex_nil {P : Program} (e : Ex) (w : World) (cv : Int) : (e.fn #[.slice none 0 0, .int .u8 cv]).run P w = .ok (e.val [] cv.toNat.toUInt8) w := by
  have hs := run_ex_string (P := P) e .empty cv w
  cases e <;> exact hs

theorem VRel.int_inv {M : Mp} {k : IntKind} {n : Int} {x : Value} (h : VRel M (.int k n) x) : x = .int k n := by cases h; rfl

theorem exV_sound {P : Program} {M : Mp} {h : AHeap} {w : World} {e : Ex} {vs : List Value} {cargs : Array Value} {v : Value} (r : Rel M h w) (hr : VRels M vs.toArray cargs) (hv : exV h e vs = some v) :
    (e.fn cargs).run P w = .ok v w ∧ VRel M v v := by
  have hself : ∀ bs c, VRel M (e.val bs c) (e.val bs c) := fun bs c => by cases e <;> exact .int _ _
  unfold exV at hv
  split at hv
  · rename_i x c
    obtain ⟨y, z, rfl⟩ : ∃ y z, cargs = #[y, z] := by
      obtain ⟨l⟩ := cargs
      have := hr.1
      match l, this with
      | [y, z], _ => exact ⟨y, z, rfl⟩
    have hx : VRel M x y := hr.2 0 (by simp) (by simp)
    have hz := VRel.int_inv (hr.2 1 (by simp) (by simp))
    simp only [List.getElem_toArray, List.getElem_cons_succ, List.getElem_cons_zero] at hz
    subst hz
    simp only [Option.map_eq_some_iff] at hv
    obtain ⟨bs, hbs, rfl⟩ := hv
    refine ⟨?_, hself _ _⟩
    cases hx <;> simp only [bytesV, poison] at hbs <;> first | (cases hbs; done) | skip
    case string s => obtain rfl := Option.some.inj hbs; exact run_ex_string e s c w
    case nilSlice => obtain rfl := Option.some.inj hbs; exact run_ex_nil e w c
    case slice i off len cap cap' b hM hle hcap =>
      split at hbs
      · rename_i cc el sz ti ro ho
        split at hbs
        · rename_i hoff
          obtain ⟨ns, hns, rfl⟩ := bytesOf_nums hbs
          obtain ⟨c0, lo, hi, h1, h2, h3, h4, h5, h6, h7⟩ := r.live i _ b ho hM
          have hlen : ns.length = len := by
            have := congrArg List.length hns
            simp at this; omega
          refine run_ex_slice e _ ns len cap' hlen w (fun j x hj => ?_) c
          have hjl : j < len := by have := (List.getElem?_eq_some_iff.1 hj).1; omega
          have hjc : off + j < cc.length := by omega
          obtain ⟨vc, hv, hr2⟩ := h7 (off + j) cc[off + j] (List.getElem?_eq_getElem hjc)
          have e1 : cc[off + j] = .int .u8 x := by
            have := congrArg (fun l => l[j]?) hns
            simp only [List.getElem?_take, List.getElem?_drop, List.getElem?_map, hj, Option.map_some, if_pos hjl, List.getElem?_eq_getElem hjc] at this
            exact Option.some.inj this
          rw [e1] at hr2
          have := VRel.int_inv hr2
          subst this
          rw [add_eq]
          have hlt : b.base + (off + j) < c0.size := by omega
          simp only [World.cell?, h1]
          rw [show b.base + off + j = b.base + (off + j) by omega]
          exact hv
        · cases hbs
      · cases hbs
    case slice0 i off off' cap' b hM _ =>
      split at hbs
      · split at hbs
        · simp only [List.take_zero, bytesOf, Option.some.injEq] at hbs
          subst hbs
          exact run_ex_slice e _ [] 0 cap' rfl w (fun j x hj => by simp at hj) c
        · cases hbs
      · cases hbs
    case slice00 i off a b hM =>
      split at hbs
      · split at hbs
        · simp only [List.take_zero, bytesOf, Option.some.injEq] at hbs
          subst hbs
          exact run_ex_slice e _ [] 0 0 rfl w (fun j x hj => by simp at hj) c
        · cases hbs
      · cases hbs
  · cases hv
theorem run_callExt {P : Program} {g : FuncId} {e : Ex} (hx : ExRow P g e) {args : Array Value} {v : Value} {w : World} (h : (e.fn args).run P w = .ok v w) : (callFunc g args).run P w = .ok (.value v) w := by
  obtain ⟨fn, h1, h2, h3, h4, h5⟩ := hx
  rw [run_callFunc_extern h1 h2 h3 h4 h5, h]; rfl
end Ab
end
