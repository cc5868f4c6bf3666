import Derived.Test.YtjjocbijmhmdkaaAbE
import Derived.Laws.BytesArg
import Derived.Lib.ConvBytes
namespace Ab
open Go
set_option autoImplicit false
set_option linter.unusedVariables false
set_option linter.unusedSimpArgs false

/-! ### Pieces of slices, arrays and texts -/
def sb (y : Nat) : Value → Option Nat
  | .int _ i => if 0 ≤ i ∧ i ≤ y then some i.toNat else none
  | _ => none

def bnds (len cap : Nat) (lo hi mx : Option Value) : Option (Nat × Nat × Nat) :=
  (match mx with | some v => sb cap v | none => some cap).bind fun m =>
  (match hi, mx with | some v, _ => sb m v | none, none => some len | none, some _ => none).bind fun h =>
  (match lo with | some v => sb h v | none => some 0).bind fun l => some (l, h, m)

inductive ORel (M : Mp) : Option Value → Option Value → Prop
  | none : ORel M none none
  | some (v v' : Value) : VRel M v v' → ORel M (some v) (some v')

theorem run_sb {P : Program} {M : Mp} {v v' : Value} {y y' n : Nat} (w : World) (code : BoundsCode) (hv : VRel M v v') (h : sb y v = some n) (hy : y ≤ y') :
    (Instr.sliceBound v' y' code).run P w = .ok n w ∧ n ≤ y := by
  cases hv <;> simp only [sb, poison] at h <;> first | (cases h; done) | skip
  split at h
  · rename_i k i hi
    obtain rfl := Option.some.inj h
    refine ⟨?_, by omega⟩
    have : 0 ≤ i ∧ i ≤ (y' : Int) := by omega
    simp [Instr.sliceBound, asIntOf, Result.andThen, this]
  · cases h

theorem run_bnds {P : Program} {M : Mp} {b : Bool} {len cap cap' l h m : Nat} {lo hi mx lo' hi' mx' : Option Value} (w : World) (h1 : ORel M lo lo') (h2 : ORel M hi hi') (h3 : ORel M mx mx')
    (hc : cap ≤ cap') (hl : len ≤ cap) (e : bnds len cap lo hi mx = some (l, h, m)) :
    (Instr.sliceBounds b len cap' lo' hi' mx').run P w = .ok (l, h, if mx.isNone then cap' else m) w ∧ l ≤ h ∧ h ≤ m ∧ m ≤ cap ∧ (mx.isNone = true → m = cap) := by
  unfold bnds at e
  simp only [Option.bind_eq_some_iff, Option.some.injEq, Prod.mk.injEq] at e
  obtain ⟨m', em, h', eh, l', el, rfl, rfl, rfl⟩ := e
  unfold Instr.sliceBounds
  cases h3 with
  | none =>
    simp only [Option.some.injEq] at em
    subst em
    cases h2 with
    | none =>
      simp only [Option.some.injEq] at eh
      subst eh
      cases h1 with
      | none => simp only [Option.some.injEq] at el; subst el; exact ⟨by simp [Result.andThen], by omega, by omega, by omega, fun _ => rfl⟩
      | some v v' hv =>
        obtain ⟨e1, e2⟩ := run_sb (P := P) w .sliceB hv el (Nat.le_refl _)
        exact ⟨by simp [Result.andThen, e1], e2, by omega, by omega, fun _ => rfl⟩
    | some u u' hu =>
      have eh1 := run_sb (P := P) w (if b = true then .sliceAcap else .sliceAlen) hu eh hc
      cases h1 with
      | none => simp only [Option.some.injEq] at el; subst el; exact ⟨by simp [Result.andThen, eh1.1], by omega, by omega, by omega, fun _ => rfl⟩
      | some v v' hv =>
        obtain ⟨e1, e2⟩ := run_sb (P := P) w .sliceB hv el (Nat.le_refl _)
        exact ⟨by simp [Result.andThen, eh1.1, e1], e2, by omega, by omega, fun _ => rfl⟩
  | some x x' hx =>
    have em1 := run_sb (P := P) w (if b = true then .slice3Acap else .slice3Alen) hx em hc
    cases h2 with
    | none => cases eh
    | some u u' hu =>
      have eh1 := run_sb (P := P) w .slice3B hu eh (Nat.le_refl _)
      cases h1 with
      | none => simp only [Option.some.injEq] at el; subst el; exact ⟨by simp [Result.andThen, em1.1, eh1.1], by omega, by omega, by omega, fun h => by simp at h⟩
      | some v v' hv =>
        obtain ⟨e1, e2⟩ := run_sb (P := P) w .slice3C hv el (Nat.le_refl _)
        exact ⟨by simp [Result.andThen, em1.1, eh1.1, e1], e2, by omega, by omega, fun h => by simp at h⟩

def arrSlice (P : Program) (n : Nat) (elem : TypeId) (i off : Nat) (lo hi mx : Option Value) : Option Value :=
  match tsz P elem, bnds n n lo hi mx with
  | some sz, some (l, h, m) => some (.slice (some ⟨i, if m = l then off else off + l * sz, none⟩) (h - l) (m - l))
  | _, _ => none

/-- Pieces: `h` is asked for the elements' size of a slice's row. -/
def sliceR (P : Program) (h : AHeap) (t : TypeId) (x : Value) (lo hi mx : Option Value) : Option Value :=
  match x with
  | .string s => match P.underlying t with
    | some .string => if mx.isSome then none else (bnds s.size s.size lo hi none).map fun p => .string (s.extract p.1 p.2.1)
    | _ => none
  | .slice none _ _ => match P.underlying t with
    | some (.slice e) => match tsz P e, bnds 0 0 lo hi mx with
      | some _, some _ => some (.slice none 0 0)
      | _, _ => none
    | _ => none
  | .slice (some ⟨i, off, none⟩) len cap => match P.underlying t with
    | some (.slice e) => match tsz P e, h.obj i with
      | some sz, some (.row _ _ esz ti _) => if ti = true ∨ sz = esz then
          match bnds len cap lo hi mx with
          | some (l, hh, m) => some (if m = l then .slice (some ⟨i, off, none⟩) 0 0 else .slice (some ⟨i, off + l * sz, none⟩) (hh - l) (m - l))
          | none => none
        else none
      | _, _ => none
    | _ => none
  | .pointer (some ⟨i, off, none⟩) => match P.underlying t with
    | some (.array n e) => arrSlice P n e i off lo hi mx
    | some (.pointer a) => match P.underlying a with
      | some (.array n e) => arrSlice P n e i off lo hi mx
      | _ => none
    | _ => none
  | _ => none

theorem arrSlice_sound {P : Program} {M : Mp} {w : World} {n : Nat} {elem : TypeId} {i off : Nat} {b : Blk} {lo hi mx lo' hi' mx' : Option Value} {v : Value} (hM : M i = some b)
    (h1 : ORel M lo lo') (h2 : ORel M hi hi') (h3 : ORel M mx mx') (h : arrSlice P n elem i off lo hi mx = some v) :
    ∃ v', (do let (l, h, m) ← Instr.sliceBounds false n n lo' hi' mx'
              let size ← Go.sizeOf elem
              pure (Value.slice (some (if m = l then (⟨b.blk, b.base + off, none⟩ : Addr) else (⟨b.blk, b.base + off, none⟩ : Addr).add (l * size))) (h - l) (m - l))).run P w = .ok v' w ∧ VRel M v v' := by
  unfold arrSlice at h
  split at h
  · rename_i sz l hh m hsz hb
    obtain rfl := Option.some.inj h
    obtain ⟨e1, e2, e3, e4, e5⟩ := run_bnds (P := P) (b := false) w h1 h2 h3 (Nat.le_refl _) (Nat.le_refl _) hb
    have em : (if mx.isNone then n else m) = m := by split; exact (e5 ‹_›).symm; rfl
    rw [em] at e1
    refine ⟨_, by simp only [Sem.run_bind, e1, Result.andThen, run_tsz w hsz, Sem.run_pure, add_eq]; rfl, ?_⟩
    have e6 : (if m = l then (⟨b.blk, b.base + off, none⟩ : Addr) else ⟨b.blk, b.base + off + l * sz, none⟩) = ⟨b.blk, b.base + (if m = l then off else off + l * sz), none⟩ := by
      split <;> simp [Nat.add_assoc]
    rw [e6]
    exact .slice i _ (hh - l) (m - l) (m - l) b hM (by omega) (.inl rfl)
  · cases h

theorem sliceR_sound {P : Program} {t : TypeId} {M : Mp} {h : AHeap} {w : World} {x x' v : Value} {lo hi mx lo' hi' mx' : Option Value} (r : Rel M h w) (hx : VRel M x x')
    (h1 : ORel M lo lo') (h2 : ORel M hi hi') (h3 : ORel M mx mx') (hs : sliceR P h t x lo hi mx = some v) :
    ∃ v', (Instr.sliceAt t x' lo' hi' mx').run P w = .ok v' w ∧ VRel M v v' := by
  cases hx <;> simp only [sliceR, poison] at hs <;> first | (cases hs; done) | skip
  case string s =>
    split at hs
    · rename_i hd
      split at hs
      · cases hs
      · rename_i hm
        simp only [Option.map_eq_some_iff] at hs
        obtain ⟨⟨l, hh, m⟩, hb, rfl⟩ := hs
        have hmx : mx = none := by cases mx <;> simp at hm ⊢
        subst hmx
        cases h3
        obtain ⟨e1, _⟩ := run_bnds (P := P) (b := false) w h1 h2 .none (Nat.le_refl _) (Nat.le_refl _) hb
        refine ⟨_, ?_, .string _⟩
        unfold Instr.sliceAt
        rw [Sem.run_bind, run_underlying hd]
        simp only [Result.andThen]
        unfold Instr.slice
        rw [Sem.run_bind, run_underlying hd]
        simp [Result.andThen, e1]
    · cases hs
  case ptr i off b hM =>
    split at hs
    · rename_i n e hd
      obtain ⟨v', e1, hr⟩ := arrSlice_sound (P := P) (w := w) hM h1 h2 h3 hs
      refine ⟨v', ?_, hr⟩
      unfold Instr.sliceAt
      rw [Sem.run_bind, run_underlying hd]
      simp only [Result.andThen, Instr.sureAddr]
      exact e1
    · rename_i a hd
      split at hs
      · rename_i n e hd2
        obtain ⟨v', e1, hr⟩ := arrSlice_sound (P := P) (w := w) hM h1 h2 h3 hs
        refine ⟨v', ?_, hr⟩
        unfold Instr.sliceAt
        rw [Sem.run_bind, run_underlying hd]
        simp only [Result.andThen]
        unfold Instr.slice
        rw [Sem.run_bind, run_underlying hd]
        simp only [Result.andThen, asAddr]
        rw [Sem.run_bind, Sem.run_pure]
        simp only [Result.andThen]
        rw [Sem.run_bind, run_underlying hd2]
        simp only [Result.andThen]
        exact e1
      · cases hs
    · cases hs
  case nilSlice =>
    split at hs
    · rename_i e hd
      split at hs
      · rename_i sz p hsz hb
        obtain rfl := Option.some.inj hs
        obtain ⟨l, hh, m⟩ := p
        obtain ⟨e1, e2, e3, e4, e5⟩ := run_bnds (P := P) (b := true) w h1 h2 h3 (Nat.le_refl 0) (Nat.le_refl 0) hb
        have hm : m = 0 := by omega
        have hl : l = 0 := by omega
        have hhh : hh = 0 := by omega
        subst hm hl hhh
        refine ⟨_, ?_, .nilSlice⟩
        unfold Instr.sliceAt
        rw [Sem.run_bind, run_underlying hd]
        simp only [Result.andThen]
        unfold Instr.slice
        rw [Sem.run_bind, run_underlying hd]
        simp [Result.andThen, e1, run_tsz w hsz]
      · cases hs
    · cases hs
  case slice i off len cap cap' b hM hlc hcap =>
    split at hs
    · rename_i e hd
      split at hs
      · rename_i sz c el esz ti ro hsz ho
        split at hs
        · rename_i hse
          split at hs
          · rename_i l hh m hb
            obtain rfl := Option.some.inj hs
            obtain ⟨cc, _, _, _, _, _, hbe, htb, _⟩ := r.live i _ b ho hM
            have hesz : b.opn = true → b.esz = sz := fun ho => by
              rcases hse with h | h
              · rw [htb h] at ho; cases ho
              · rw [hbe, h]
            have hcc : cap ≤ cap' := by rcases hcap with h | h; omega; exact h.2.1
            obtain ⟨e1, e2, e3, e4, e5⟩ := run_bnds (P := P) (b := true) w h1 h2 h3 hcc hlc hb
            have hrun : (Instr.sliceAt t (.slice (some ⟨b.blk, b.base + off, none⟩) len cap') lo' hi' mx').run P w =
                .ok (.slice (some (if (if mx.isNone then cap' else m) = l then (⟨b.blk, b.base + off, none⟩ : Addr) else ⟨b.blk, b.base + off + l * sz, none⟩)) (hh - l) ((if mx.isNone then cap' else m) - l)) w := by
              unfold Instr.sliceAt
              rw [Sem.run_bind, run_underlying hd]
              simp only [Result.andThen]
              unfold Instr.slice
              rw [Sem.run_bind, run_underlying hd]
              simp only [Result.andThen]
              rw [Sem.run_bind, e1]
              simp only [Result.andThen]
              rw [Sem.run_bind, run_tsz w hsz]
              simp only [Result.andThen, Option.map_some, add_eq, Sem.run_pure]
              congr 2
              exact (apply_ite some _ _ _).symm
            refine ⟨_, hrun, ?_⟩
            generalize hm' : (if mx.isNone then cap' else m) = m'
            have hmm : m ≤ m' := by subst hm'; split; have := e5 ‹_›; omega; omega
            have hopen : m' = m ∨ (b.opn = true ∧ off + m' * sz ≤ b.size) := by
              subst hm'
              split
              · rcases hcap with h | h
                · have := e5 ‹_›; left; omega
                · right; have := hesz h.1; rw [this] at h; exact ⟨h.1, h.2.2⟩
              · exact .inl rfl
            have hmul : ∀ a, l ≤ a → l * sz + (a - l) * sz = a * sz := fun a ha => by rw [← Nat.add_mul]; congr 1; omega
            split
            · rename_i hml
              have hh0 : hh - l = 0 := by omega
              rw [hh0]
              by_cases hml' : m' = l
              · rw [if_pos hml']
                exact .slice0 i off off (m' - l) b hM (.inl (by omega))
              · rw [if_neg hml', Nat.add_assoc]
                refine .slice0 i off (off + l * sz) (m' - l) b hM ?_
                rcases hopen with h | h
                · exact absurd (h.trans hml) hml'
                · right; refine ⟨h.1, ?_⟩; rw [hesz h.1, Nat.add_assoc, hmul m' (by omega)]; exact h.2
            · rename_i hml
              rw [if_neg (by omega), Nat.add_assoc]
              refine .slice i (off + l * sz) (hh - l) (m - l) (m' - l) b hM (by omega) ?_
              rcases hopen with h | h
              · left; rw [h]
              · right; refine ⟨h.1, by omega, ?_⟩; rw [hesz h.1, Nat.add_assoc, hmul m' (by omega)]; exact h.2
          · cases hs
        · cases hs
      · cases hs
    · cases hs
  case slice00 i off a b hM =>
    split at hs
    · rename_i e hd
      split at hs
      · rename_i sz c el esz ti ro hsz ho
        split at hs
        · split at hs
          · rename_i l hh m hb
            obtain rfl := Option.some.inj hs
            obtain ⟨e1, e2, e3, e4, e5⟩ := run_bnds (P := P) (b := true) w h1 h2 h3 (Nat.le_refl 0) (Nat.le_refl 0) hb
            have hm : m = 0 := by omega
            have hl : l = 0 := by omega
            have hhh : hh = 0 := by omega
            subst hm hl hhh
            rw [if_pos rfl]
            refine ⟨.slice (some a) 0 0, ?_, .slice00 i off a b hM⟩
            unfold Instr.sliceAt
            rw [Sem.run_bind, run_underlying hd]
            simp only [Result.andThen]
            unfold Instr.slice
            rw [Sem.run_bind, run_underlying hd]
            simp only [Result.andThen]
            rw [Sem.run_bind, e1]
            simp only [Result.andThen]
            rw [Sem.run_bind, run_tsz w hsz]
            simp [Result.andThen, Addr.add]
          · cases hs
        · cases hs
      · cases hs
    · cases hs
  case slice0 i off off' cap' b hM hcap =>
    split at hs
    · rename_i e hd
      split at hs
      · rename_i sz c el esz ti ro hsz ho
        split at hs
        · split at hs
          · rename_i l hh m hb
            obtain rfl := Option.some.inj hs
            obtain ⟨e1, e2, e3, e4, e5⟩ := run_bnds (P := P) (b := true) w h1 h2 h3 (Nat.zero_le cap') (Nat.le_refl 0) hb
            have hm : m = 0 := by omega
            have hl : l = 0 := by omega
            have hhh : hh = 0 := by omega
            subst hm hl hhh
            rw [if_pos rfl]
            refine ⟨.slice (some ⟨b.blk, b.base + off', none⟩) 0 (if mx.isNone then cap' else 0), ?_, ?_⟩
            · unfold Instr.sliceAt
              rw [Sem.run_bind, run_underlying hd]
              simp only [Result.andThen]
              unfold Instr.slice
              rw [Sem.run_bind, run_underlying hd]
              simp only [Result.andThen]
              rw [Sem.run_bind, e1]
              simp only [Result.andThen]
              rw [Sem.run_bind, run_tsz w hsz]
              simp [Result.andThen, add_eq]
            · refine .slice0 i off off' _ b hM ?_
              split
              · exact hcap
              · exact .inl rfl
          · cases hs
        · cases hs
      · cases hs
    · cases hs
end Ab
