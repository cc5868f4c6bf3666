import Derived.Test.YtjjocbijmhmdkaaAbA
import Derived.Laws.Entries
import Derived.Laws.Cells
namespace Ab
open Go
set_option autoImplicit false
set_option linter.unusedVariables false
set_option linter.unusedSimpArgs false

/-! ### Operands -/
def constCell : Value → Bool
  | .bool _ | .int _ _ | .string _ | .pointer none | .slice none 0 0 | .map none | .nilFunc | .nilIface => true
  | _ => false
def constOk : Value → Bool
  | .agg cs => cs.toList.all constCell
  | v => constCell v

theorem VRel.cell (M : Mp) {v : Value} (h : constCell v = true) : VRel M v v := by
  unfold constCell at h
  split at h <;> first | exact .bool _ | exact .int _ _ | exact .string _ | exact .nilPtr | exact .nilSlice | exact .nilMap | exact .nilFunc | exact .nilIface | (simp at h)

theorem VRel.const (M : Mp) {v : Value} (h : constOk v = true) : VRel M v v := by
  unfold constOk at h
  split at h
  · rename_i cs
    refine .agg _ _ rfl fun j h1 h2 => VRel.cell M ?_
    rw [List.all_eq_true] at h
    exact h _ (by simp)
  · exact VRel.cell M h

def ev (base : Nat) (s : St) : Operand → Option Value
  | .tmp t => s.get t
  | .const v => if constOk v then some v else none
  | .global g => if g < base then some (.pointer (some ⟨g, 0, none⟩)) else none
  | .func f => some (.func (.func f) #[] #[])

theorem ev_sound {M : Mp} {s : St} {h : AHeap} {a : Act} {w : World} (sr : SRel M s a) (r : Rel M h w) {x : Operand} {v : Value} (e : ev h.base s x = some v) : VRel M v (a.eval x) := by
  cases x with
  | tmp t => exact sr.get t v e
  | const u =>
    simp only [ev] at e; split at e
    · rename_i hc; obtain rfl := Option.some.inj e; exact VRel.const M hc
    · cases e
  | global g =>
    simp only [ev] at e; split at e
    · rename_i hg; obtain rfl := Option.some.inj e
      obtain ⟨b, hM, h1, h2⟩ := r.glob g hg
      have := VRel.ptr (M := M) g 0 b hM
      rwa [h1, h2] at this
    · cases e
  | func f => obtain rfl := Option.some.inj e; exact .func _ _ _ _ _ rfl (fun j h => absurd h (by simp)) rfl (fun j h => absurd h (by simp))

/-! ### Numbers, truth values, texts -/
def cmpI : BinOp → Int → Int → Option Bool
  | .eql, a, b => some (a == b)
  | .neq, a, b => some (a != b)
  | .lss, a, b => some (decide (a < b))
  | .leq, a, b => some (decide (a ≤ b))
  | .gtr, a, b => some (decide (a > b))
  | .geq, a, b => some (decide (a ≥ b))
  | _, _, _ => none

def arithI : BinOp → IntKind → Int → Int → Option Int
  | .add, k, a, b => some (k.wrap (a + b))
  | .sub, k, a, b => some (k.wrap (a - b))
  | .mul, k, a, b => some (k.wrap (a * b))
  | .quo, k, a, b => if b = 0 then none else some (k.wrap (a.tdiv b))
  | .rem, _, a, b => if b = 0 then none else some (a.tmod b)
  | .and, k, a, b => some (k.wrap (BitVec.ofInt k.bits a &&& BitVec.ofInt k.bits b).toNat)
  | .or, k, a, b => some (k.wrap (BitVec.ofInt k.bits a ||| BitVec.ofInt k.bits b).toNat)
  | .xor, k, a, b => some (k.wrap (BitVec.ofInt k.bits a ^^^ BitVec.ofInt k.bits b).toNat)
  | .andNot, k, a, b => some (k.wrap (BitVec.ofInt k.bits a &&& ~~~ BitVec.ofInt k.bits b).toNat)
  | _, _, _, _ => none

def shiftI : BinOp → IntKind → Int → Int → Option Int
  | .shl, k, a, b => if b < 0 then none else some (k.wrap (a * 2 ^ (min b.toNat k.bits)))
  | .shr, k, a, b => if b < 0 then none else some (a.fdiv (2 ^ (min b.toNat k.bits)))
  | _, _, _, _ => none

def isShift : BinOp → Bool
  | .shl | .shr => true
  | _ => false

def strA : BinOp → ByteArray → ByteArray → Option Value
  | .add, a, b => if a.size + b.size ≤ 9223372036854775807 then some (.string (a ++ b)) else none
  | .eql, a, b => some (.bool (a.toList == b.toList))
  | .neq, a, b => some (.bool !(a.toList == b.toList))
  | .lss, a, b => some (.bool (Op.bytesLess a.toList b.toList))
  | .leq, a, b => some (.bool (Op.bytesLess a.toList b.toList || a.toList == b.toList))
  | .gtr, a, b => some (.bool !(Op.bytesLess a.toList b.toList || a.toList == b.toList))
  | .geq, a, b => some (.bool !(Op.bytesLess a.toList b.toList))
  | _, _, _ => none

/-- '==' of what is no number and no text: truth values; against nil. -/
def eqA (P : Program) (t : TypeId) : Value → Value → Option Bool
  | .bool a, .bool b => match P.underlying t with | some .bool => some (a == b) | _ => none
  | .pointer none, .pointer b => match P.underlying t with | some (.pointer _) => some b.isNone | _ => none
  | .pointer (some _), .pointer none => match P.underlying t with | some (.pointer _) => some false | _ => none
  | .slice none _ _, .slice b _ _ => match P.underlying t with | some (.slice _) => some b.isNone | _ => none
  | .slice (some _) _ _, .slice none _ _ => match P.underlying t with | some (.slice _) => some false | _ => none
  | .map none, .map b => match P.underlying t with | some (.map _ _) => some b.isNone | _ => none
  | .map (some _), .map none => match P.underlying t with | some (.map _ _) => some false | _ => none
  | _, _ => none

def binA (P : Program) (op : BinOp) (t : TypeId) : Value → Value → Option Value
  | .int k a, .int k' b =>
    if isShift op then (shiftI op k a b).map (.int k)
    else if k = k' then
      match arithI op k a b with
      | some n => some (.int k n)
      | none => (cmpI op a b).map .bool
    else none
  | .string a, .string b => strA op a b
  | x, y => match op with
    | .eql => (eqA P t x y).map .bool
    | .neq => (eqA P t x y).map fun b => .bool !b
    | _ => none

theorem run_binInt {P : Program} {op : BinOp} {t : TypeId} {k k' : IntKind} {a b : Int} {v : Value} (w : World) (h : binA P op t (.int k a) (.int k' b) = some v) :
    (binOp op t (.int k a) (.int k' b)).run P w = .ok v w := by
  simp only [binA] at h
  split at h
  · rename_i hs
    cases op <;> simp [isShift] at hs <;> simp only [shiftI] at h <;> split at h <;> simp at h <;> subst h <;> rename_i hb <;>
      simp [binOp, Op.shift, hb]
  · rename_i hs
    split at h
    · rename_i hk
      subst hk
      cases op <;> simp [isShift] at hs <;> simp [arithI, cmpI] at h <;>
        first
        | (subst h; simp [binOp, Op.intArith, Op.intBits, Op.intCmp])
        | (obtain ⟨h0, h⟩ : ¬ b = 0 ∧ _ := by
            by_cases hb : b = 0
            · simp [hb] at h
            · simp [hb] at h; exact ⟨hb, h⟩
           subst h; simp [binOp, Op.intDiv, h0])
    · cases h

theorem run_binStr {P : Program} {op : BinOp} {t : TypeId} {a b : ByteArray} {v : Value} (w : World) (h : strA op a b = some v) :
    (binOp op t (.string a) (.string b)).run P w = .ok v w := by
  cases op <;> simp [strA] at h
  case add =>
    obtain ⟨h0, h⟩ := h
    subst h
    have : ¬ (((a.size + b.size : Nat) : Int) > IntKind.i64.max) := by
      have e : IntKind.i64.max = 9223372036854775807 := by decide
      rw [e]; omega
    simp only [binOp, Op.stringOp, if_neg this, Sem.run_pure]
  all_goals (subst h; simp [binOp, Op.stringOp])

theorem equal_eq (t : TypeId) (x y : Value) : Op.equal t x y = Op.equalIn (9999 + 1) t x y := rfl

theorem run_eqA {P : Program} {t : TypeId} {M : Mp} {x x' y y' : Value} {b : Bool} (w : World) (hx : VRel M x x') (hy : VRel M y y') (h : eqA P t x y = some b) :
    (Op.equal t x' y').run P w = .ok b w := by
  rw [equal_eq, Op.equalIn]
  cases hx <;> cases hy <;> simp only [eqA, poison] at h <;> first
    | (cases h; done)
    | (split at h
       · rename_i ht
         simp only [Option.some.injEq] at h
         subst h
         rw [Sem.run_bind, run_underlying ht]
         rfl
       · cases h)

/-- The guard ahead of '==' lets by all that is neither a nil interface nor an aggregate. -/
def plainV : Value → Bool
  | .nilIface | .agg _ => false
  | _ => true

theorem run_eqGuard {P : Program} (op : BinOp) (t : TypeId) (x y : Operand) {a b : Value} (w : World) (h : plainV a = true) :
    (eqGuard op t x y a b).run P w = .ok () w := by
  unfold eqGuard
  cases a <;> simp [plainV] at h <;> (simp only [Sem.run_bind, Sem.run_ite, Sem.run_pure]; (try (split <;> rfl)))

theorem binA_plain {P : Program} {op : BinOp} {t : TypeId} {x y v : Value} (h : binA P op t x y = some v) : plainV x = true ∧ constCell v = true := by
  constructor
  · cases x <;> first | rfl | (cases y <;> cases op <;> simp [binA, eqA] at h)
  · unfold binA at h
    split at h
    · split at h
      · simp only [Option.map_eq_some_iff] at h; obtain ⟨n, _, rfl⟩ := h; rfl
      · split at h
        · split at h
          · obtain rfl := Option.some.inj h; rfl
          · simp only [Option.map_eq_some_iff] at h; obtain ⟨n, _, rfl⟩ := h; rfl
        · cases h
    · unfold strA at h
      split at h <;> first | (obtain rfl := Option.some.inj h; rfl) | (cases h; done) | (split at h <;> first | (obtain rfl := Option.some.inj h; rfl) | (cases h; done))
    · split at h <;> first | (cases h; done) | (simp only [Option.map_eq_some_iff] at h; obtain ⟨n, _, rfl⟩ := h; rfl)

theorem binA_sound {P : Program} {op : BinOp} {t : TypeId} {M : Mp} {x x' y y' v : Value} (w : World) (hx : VRel M x x') (hy : VRel M y y') (h : binA P op t x y = some v) :
    (binOp op t x' y').run P w = .ok v w := by
  by_cases hi : ∃ k a k' b, x = .int k a ∧ y = .int k' b
  · obtain ⟨k, a, k', b, rfl, rfl⟩ := hi
    cases hx; cases hy
    exact run_binInt w h
  · by_cases hs : ∃ a b, x = .string a ∧ y = .string b
    · obtain ⟨a, b, rfl, rfl⟩ := hs
      cases hx; cases hy
      exact run_binStr w h
    · have h2 : (∃ b, op = .eql ∧ eqA P t x y = some b ∧ v = .bool b) ∨ (∃ b, op = .neq ∧ eqA P t x y = some b ∧ v = .bool !b) := by
        unfold binA at h
        split at h
        · exact absurd ⟨_, _, _, _, rfl, rfl⟩ hi
        · exact absurd ⟨_, _, rfl, rfl⟩ hs
        · cases op <;> simp only [] at h <;> first
            | (cases h; done)
            | (simp only [Option.map_eq_some_iff] at h; obtain ⟨b, hb, rfl⟩ := h; first | exact .inl ⟨b, rfl, hb, rfl⟩ | exact .inr ⟨b, rfl, hb, rfl⟩)
      rcases h2 with ⟨b, rfl, hb, rfl⟩ | ⟨b, rfl, hb, rfl⟩ <;>
      · have e := run_eqA w hx hy hb
        cases hx <;> cases hy <;> simp only [eqA, poison] at hb <;> first
          | (cases hb; done)
          | (simp [binOp, e, Result.andThen])

/-- A binary operation, as the machine runs it. -/
theorem run_bin {P : Program} {op : BinOp} {t : TypeId} {M : Mp} {x x' y y' v : Value} (xo yo : Operand) (w : World) (hx : VRel M x x') (hy : VRel M y y') (h : binA P op t x y = some v) :
    (do eqGuard op t xo yo x' y'; binOp op t x' y').run P w = .ok v w ∧ VRel M v v := by
  have hp := binA_plain h
  refine ⟨?_, VRel.cell M hp.2⟩
  have hp' : plainV x' = true := by
    cases hx <;> first | rfl | (simp [plainV] at hp; done) | skip
    simp [binA, poison] at h; cases op <;> simp [eqA] at h
  rw [Sem.run_bind, run_eqGuard op t xo yo w hp']
  exact binA_sound w hx hy h

end Ab
