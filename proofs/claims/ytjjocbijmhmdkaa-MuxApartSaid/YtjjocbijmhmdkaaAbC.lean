import Derived.Test.YtjjocbijmhmdkaaAbB
namespace Ab
open Go
set_option autoImplicit false
set_option linter.unusedVariables false
set_option linter.unusedSimpArgs false

/-! ### Types -/
def tsz (P : Program) (t : TypeId) : Option Nat := (P.info? t).map (·.size)
def tby (P : Program) (t : TypeId) : Option Nat := (P.info? t).map (·.bytes)
def tzero (P : Program) (t : TypeId) : Option Value := (P.info? t).bind (·.zero)

section
variable {P : Program} (w : World)
theorem run_tsz {t : TypeId} {n : Nat} (h : tsz P t = some n) : (Go.sizeOf t).run P w = .ok n w := by
  unfold tsz at h
  simp only [Option.map_eq_some_iff] at h
  obtain ⟨i, hi, rfl⟩ := h
  simp [Go.sizeOf, typeInfo, hi, Result.andThen]
theorem run_tby {t : TypeId} {n : Nat} (h : tby P t = some n) : ∃ i, (typeInfo t).run P w = .ok i w ∧ i.bytes = n := by
  unfold tby at h
  simp only [Option.map_eq_some_iff] at h
  obtain ⟨i, hi, rfl⟩ := h
  exact ⟨i, by simp [typeInfo, hi, Result.andThen], rfl⟩
theorem run_tzero {t : TypeId} {v : Value} (h : tzero P t = some v) : (zeroValue t).run P w = .ok v w := by
  unfold tzero at h
  simp only [Option.bind_eq_some_iff] at h
  obtain ⟨i, hi, hz⟩ := h
  simp [zeroValue, typeInfo, hi, hz, Result.andThen]
def aggB (P : Program) (t : TypeId) : Option Bool :=
  match P.underlying t with
  | some (.struct _) | some (.array _ _) => some true
  | some _ => some false
  | none => none
theorem run_aggB {t : TypeId} {b : Bool} (h : aggB P t = some b) : (isAgg t).run P w = .ok b w := by
  unfold aggB at h
  cases hd : P.underlying t with
  | none => simp [hd] at h
  | some d => cases d <;> simp [hd] at h <;> subst h <;> simp [isAgg, run_underlying hd, Result.andThen]
end

/-! ### Related arrays -/
theorem VRels.get? {M : Mp} {c c' : Array Value} (h : VRels M c c') {j : Nat} {v : Value} (e : c[j]? = some v) : ∃ v', c'[j]? = some v' ∧ VRel M v v' := by
  obtain ⟨hj, rfl⟩ := Array.getElem?_eq_some_iff.1 e
  have hj' : j < c'.size := h.1 ▸ hj
  exact ⟨c'[j], Array.getElem?_eq_getElem hj', h.2 j hj hj'⟩

theorem VRels.extract {M : Mp} {c c' : Array Value} (h : VRels M c c') (i j : Nat) : VRels M (c.extract i j) (c'.extract i j) := by
  refine ⟨by simp [h.1], fun k h1 h2 => ?_⟩
  simp only [Array.size_extract] at h1 h2
  rw [Array.getElem_extract, Array.getElem_extract]
  exact h.2 _ _ _

theorem VRels.single {M : Mp} {v v' : Value} (h : VRel M v v') : VRels M #[v] #[v'] := by
  refine ⟨rfl, fun j h1 h2 => ?_⟩
  have : j = 0 := by simp at h1; omega
  subst this; exact h

theorem VRels.cells {M : Mp} {v v' : Value} (h : VRel M v v') (hp : v ≠ poison) : VRels M v.cells v'.cells := by
  cases h with
  | any v => exact absurd rfl hp
  | agg c c' h1 h2 => exact ⟨h1, h2⟩
  | bool b => exact VRels.single (.bool b)
  | int k n => exact VRels.single (.int k n)
  | string s => exact VRels.single (.string s)
  | nilPtr => exact VRels.single .nilPtr
  | ptr i off b h => exact VRels.single (.ptr i off b h)
  | nilSlice => exact VRels.single .nilSlice
  | slice i off len cap cap' b h h1 h2 => exact VRels.single (.slice i off len cap cap' b h h1 h2)
  | slice0 i off off' cap' b h h1 => exact VRels.single (.slice0 i off off' cap' b h h1)
  | slice00 i off a b h => exact VRels.single (.slice00 i off a b h)
  | nilMap => exact VRels.single .nilMap
  | map i b h => exact VRels.single (.map i b h)
  | nilFunc => exact VRels.single .nilFunc
  | func fn f f' c c' h1 h2 h3 h4 => exact VRels.single (.func fn f f' c c' h1 h2 h3 h4)
  | nilIface => exact VRels.single .nilIface
  | iface t v v' h => exact VRels.single (.iface t v v' h)
  | tuple c c' h1 h2 => exact VRels.single (.tuple c c' h1 h2)

theorem VRels.set {M : Mp} {c c' : Array Value} (h : VRels M c c') (i : Nat) {v v' : Value} (hv : VRel M v v') : VRels M (c.setIfInBounds i v) (c'.setIfInBounds i v') := by
  refine ⟨by simp [h.1], fun j h1 h2 => ?_⟩
  simp only [Array.size_setIfInBounds] at h1 h2
  rw [Array.getElem_setIfInBounds, Array.getElem_setIfInBounds]
  split
  · exact hv
  · exact h.2 j h1 h2

theorem add_eq (i o n : Nat) : (⟨i, o, none⟩ : Addr).add n = ⟨i, o + n, none⟩ := by
  unfold Addr.add
  split
  · rename_i h; subst h; rfl
  · rfl

/-! ### Operations on values alone -/
def unA : UnOp → Value → Option Value
  | .neg, .int k n => some (.int k (k.wrap (0 - n)))
  | .xor, .int k n => some (.int k (k.wrap (BitVec.ofInt k.bits (if k.signed then -1 else k.max) ^^^ BitVec.ofInt k.bits n).toNat))
  | .not, .bool b => some (.bool !b)
  | _, _ => none

theorem unA_sound {P : Program} {op : UnOp} {M : Mp} {x x' v : Value} (w : World) (hx : VRel M x x') (h : unA op x = some v) : (Op.unary op x').run P w = .ok v w ∧ VRel M v v := by
  cases hx <;> cases op <;> simp [unA, poison] at h <;> subst h <;> exact ⟨by simp [Op.unary, Op.intArith, Op.intBits], VRel.cell M rfl⟩

def convP (P : Program) (src dst : TypeId) : Value → Option Value
  | .int _ n => match P.underlying src, P.underlying dst with
    | some _, some (.int k) => some (.int k (k.wrap n))
    | _, _ => none
  | .string s => match P.underlying src, P.underlying dst with
    | some _, some .string => some (.string s)
    | _, _ => none
  | _ => none

theorem convP_sound {P : Program} {src dst : TypeId} {M : Mp} {x x' v : Value} (w : World) (hx : VRel M x x') (h : convP P src dst x = some v) :
    (convert src dst x').run P w = .ok v w ∧ VRel M v v := by
  cases hx <;> simp only [convP, poison] at h <;> first | (cases h; done) | skip
  all_goals
    split at h
    · rename_i d hs hd
      obtain rfl := Option.some.inj h
      refine ⟨?_, VRel.cell M rfl⟩
      unfold convert
      rw [Sem.run_bind, run_underlying hs]
      simp only [Result.andThen]
      rw [Sem.run_bind, run_underlying hd]
      simp only [Result.andThen]
      cases d <;> simp [Conv.intToInt]
    · cases h

def partA (P : Program) (t : TypeId) (cs : Array Value) (off : Nat) : Option Value :=
  match aggB P t with
  | some true => (tsz P t).map fun n => .agg (cs.extract off (off + n))
  | some false => cs[off]?
  | none => none

theorem partA_sound {P : Program} {t : TypeId} {M : Mp} {c c' : Array Value} {off : Nat} {v : Value} (w : World) (hc : VRels M c c') (h : partA P t c off = some v) :
    ∃ v', (part t c' off).run P w = .ok v' w ∧ VRel M v v' := by
  unfold partA at h
  split at h
  · rename_i ha
    simp only [Option.map_eq_some_iff] at h
    obtain ⟨n, hn, rfl⟩ := h
    refine ⟨_, ?_, (hc.extract off (off + n)).agg⟩
    simp [part, run_aggB w ha, run_tsz w hn, Result.andThen]
  · rename_i ha
    obtain ⟨v', hv', hr⟩ := hc.get? h
    refine ⟨v', ?_, hr⟩
    simp [part, run_aggB w ha, hv', Result.andThen]
  · cases h

def fieldP (P : Program) (t : TypeId) (f : Nat) : Value → Option Value
  | .agg cs => match P.underlying t with
    | some (.struct fs) => match fs[f]? with
      | some fld => partA P fld.type cs fld.offset
      | none => none
    | _ => none
  | _ => none

theorem fieldP_sound {P : Program} {t : TypeId} {f : Nat} {M : Mp} {x x' v : Value} (w : World) (hx : VRel M x x') (h : fieldP P t f x = some v) :
    ∃ v', (Instr.field t x' f).run P w = .ok v' w ∧ VRel M v v' := by
  cases hx <;> simp only [fieldP, poison] at h <;> first | (cases h; done) | skip
  rename_i c c' h1 h2
  split at h
  · rename_i fs hd
    split at h
    · rename_i fld hf
      obtain ⟨v', e, hr⟩ := partA_sound w ⟨h1, h2⟩ h
      refine ⟨v', ?_, hr⟩
      unfold Instr.field
      rw [Sem.run_bind, run_underlying hd]
      simp [Result.andThen, hf, asAgg, e]
    · cases h
  · cases h

def extractP (i : Nat) : Value → Option Value
  | .tuple vs => vs[i]?
  | _ => none

theorem extractP_sound {P : Program} {i : Nat} {M : Mp} {x x' v : Value} (w : World) (hx : VRel M x x') (h : extractP i x = some v) :
    ∃ v', (Instr.extract x' i).run P w = .ok v' w ∧ VRel M v v' := by
  cases hx <;> simp only [extractP, poison] at h <;> first | (cases h; done) | skip
  rename_i c c' h1 h2
  obtain ⟨v', e, hr⟩ := VRels.get? ⟨h1, h2⟩ h
  exact ⟨v', by simp [Instr.extract, e], hr⟩

def indexP (P : Program) (t : TypeId) : Value → Value → Option Value
  | .agg cs, .int _ i => match P.underlying t with
    | some (.array len elem) => if 0 ≤ i ∧ i < len then (tsz P elem).bind fun n => partA P elem cs (i.toNat * n) else none
    | _ => none
  | .string s, .int _ i => match P.underlying t with
    | some .string => match (if 0 ≤ i then s[i.toNat]? else none) with
      | some b => some (.int .u8 b.toNat)
      | none => none
    | _ => none
  | _, _ => none

theorem indexP_sound {P : Program} {t : TypeId} {M : Mp} {x x' y y' v : Value} (w : World) (hx : VRel M x x') (hy : VRel M y y') (h : indexP P t x y = some v) :
    ∃ v', (Instr.index t x' y').run P w = .ok v' w ∧ VRel M v v' := by
  cases hx <;> cases hy <;> simp only [indexP, poison] at h <;> first | (cases h; done) | skip
  · split at h
    · rename_i hd
      split at h
      · rename_i b hb
        obtain rfl := Option.some.inj h
        refine ⟨_, ?_, .int _ _⟩
        simp [Instr.index, asIntOf, run_underlying hd, Result.andThen, hb]
      · cases h
    · cases h
  · rename_i c c' h1 h2 k i
    split at h
    · rename_i len elem hd
      split at h
      · rename_i hi
        simp only [Option.bind_eq_some_iff] at h
        obtain ⟨n, hn, hp⟩ := h
        obtain ⟨v', e, hr⟩ := partA_sound w ⟨h1, h2⟩ hp
        refine ⟨v', ?_, hr⟩
        simp [Instr.index, asIntOf, run_underlying hd, Result.andThen, hi, run_tsz w hn, e]
      · cases h
    · cases h

def nilCheckP : Value → Option Value
  | .pointer (some a) => some (.pointer (some a))
  | .slice a n c => some (.slice a n c)
  | .func (.func f) a b => some (.func (.func f) a b)
  | .iface t v => some (.iface t v)
  | .map r => some (.map r)
  | _ => none

theorem nilCheckP_sound {M : Mp} {x x' v : Value} (hx : VRel M x x') (h : nilCheckP x = some v) :
    v = x ∧ ((∃ a, x' = .pointer (some a)) ∨ (∃ a n c, x' = .slice a n c) ∨ (∃ f a b, x' = .func (.func f) a b) ∨ (∃ t u, x' = .iface t u) ∨ ∃ r, x' = .map r) := by
  cases hx <;> simp only [nilCheckP, poison] at h <;> first
    | (cases h; done)
    | (obtain rfl := Option.some.inj h; exact ⟨rfl, by simp⟩)
    | skip
  rename_i fn f f' c c' h1 h2 h3 h4
  cases fn <;> simp only [nilCheckP] at h <;> first
    | (cases h; done)
    | (obtain rfl := Option.some.inj h; exact ⟨rfl, by simp⟩)

def fieldAddrP (P : Program) (s : TypeId) (f : Nat) : Value → Option Value
  | .pointer (some ⟨i, off, none⟩) => match P.underlying s with
    | some (.struct fs) => match fs[f]? with
      | some fld => match tsz P fld.type with
        | some n => if n = 0 then none else some (.pointer (some ⟨i, off + fld.offset, none⟩))
        | none => none
      | none => none
    | _ => none
  | _ => none

theorem fieldAddrP_sound {P : Program} {s : TypeId} {f : Nat} {M : Mp} {x x' v : Value} (w : World) (hx : VRel M x x') (h : fieldAddrP P s f x = some v) :
    ∃ v', (Instr.fieldAt s x' f).run P w = .ok v' w ∧ VRel M v v' := by
  cases hx <;> simp only [fieldAddrP, poison] at h <;> first | (cases h; done) | skip
  rename_i i off b hM
  split at h
  · rename_i fs hd
    split at h
    · rename_i fld hf
      split at h
      · rename_i n hn
        split at h
        · cases h
        · rename_i hn0
          obtain rfl := Option.some.inj h
          refine ⟨_, ?_, .ptr i (off + fld.offset) b hM⟩
          unfold Instr.fieldAt
          rw [Sem.run_bind, run_underlying hd]
          simp [Result.andThen, hf, Instr.sureAddr, fieldPlace, run_tsz w hn, hn0, add_eq, Nat.add_assoc]
      · cases h
    · cases h
  · cases h

def indexAddrP (P : Program) (t : TypeId) : Value → Value → Option Value
  | .pointer (some ⟨b, off, none⟩), .int _ i => match P.underlying t with
    | some (.array len elem) => if 0 ≤ i ∧ i < len then (tsz P elem).map fun n => .pointer (some ⟨b, off + i.toNat * n, none⟩) else none
    | _ => none
  | .slice (some ⟨b, off, none⟩) len _, .int _ i => match P.underlying t with
    | some (.slice elem) => if 0 ≤ i ∧ i < len then (tsz P elem).map fun n => .pointer (some ⟨b, off + i.toNat * n, none⟩) else none
    | _ => none
  | _, _ => none

theorem indexAddrP_sound {P : Program} {t : TypeId} {M : Mp} {x x' y y' v : Value} (w : World) (hx : VRel M x x') (hy : VRel M y y') (h : indexAddrP P t x y = some v) :
    ∃ v', (Instr.indexAt t x' y').run P w = .ok v' w ∧ VRel M v v' := by
  cases hx <;> cases hy <;> simp only [indexAddrP, poison] at h <;> first | (cases h; done) | (exfalso; split at h <;> (try split at h) <;> first | (cases h; done) | omega) | skip
  · rename_i i off b hM k n
    split at h
    · rename_i len elem hd
      split at h
      · rename_i hi
        simp only [Option.map_eq_some_iff] at h
        obtain ⟨m, hm, rfl⟩ := h
        refine ⟨_, ?_, .ptr i (off + n.toNat * m) b hM⟩
        simp [Instr.indexAt, asIntOf, run_underlying hd, Instr.sureAddr, Result.andThen, hi, run_tsz w hm, add_eq, Nat.add_assoc]
      · cases h
    · cases h
  · rename_i i off len cap cap' b hM h1 h2 k n
    split at h
    · rename_i elem hd
      split at h
      · rename_i hi
        simp only [Option.map_eq_some_iff] at h
        obtain ⟨m, hm, rfl⟩ := h
        refine ⟨_, ?_, .ptr i (off + n.toNat * m) b hM⟩
        simp [Instr.indexAt, asIntOf, run_underlying hd, Instr.sureAddr, Result.andThen, hi, run_tsz w hm, add_eq, Nat.add_assoc]
      · cases h
    · cases h

end Ab
