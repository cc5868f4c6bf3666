import Derived.Test.YtjjocbijmhmdkaaAbJ
import Derived.IntWalk
namespace Ab
open Go
set_option autoImplicit false
set_option linter.unusedVariables false
set_option linter.unusedSimpArgs false

/-! ### A conversion of a slice of bytes to its own type -/
def convS (P : Program) (h : AHeap) (src dst : TypeId) : Value → Option Value
  | .slice (some ⟨i, off, none⟩) len cap => match P.underlying src with
    | some (.slice e) => match P.underlying e, h.obj i with
      | some (.int .u8), some (.row _ _ _ _ _) => if src = dst ∧ h.base ≤ i ∧ cap ≠ 0 then some (.slice (some ⟨i, off, none⟩) len cap) else none
      | _, _ => none
    | _ => none
  | _ => none

/-- The mark of a conversion, behind a row's cells. -/
theorem Rel.mark {M : Mp} {h : AHeap} {w : World} (r : Rel M h w) {i : Nat} {c : List Value} {e : TypeId} {sz : Nat} {ti ro : Bool} {b : Blk} (ho : h.obj i = some (.row c e sz ti ro)) (hM : M i = some b) (hbase : h.base ≤ i) :
    ∃ n, w.shape? b.blk = some (e, n) ∧ Rel M h (w.freeze ⟨b.blk, n, none⟩ 1) ∧ Post M h w M h (w.freeze ⟨b.blk, n, none⟩ 1) := by
  obtain ⟨cc, lo, hi, g1, g2, g3, g4, g5, g6, g7⟩ := r.live i _ b ho hM
  refine ⟨cc.size, by simp [World.shape?, g1], ?_⟩
  have hsz : (w.freeze ⟨b.blk, cc.size, none⟩ 1).heap.size = w.heap.size := by simp [World.freeze]
  have hoth : ∀ k, k ≠ b.blk → (w.freeze ⟨b.blk, cc.size, none⟩ 1).heap[k]? = w.heap[k]? := fun k hk => by
    simp only [World.freeze]
    rw [if_neg (by decide)]
    simp only [Array.getElem?_modify]; rw [if_neg (fun e => hk e.symm)]
  have hhere : (w.freeze ⟨b.blk, cc.size, none⟩ 1).heap[b.blk]? = some (.cells cc e (if lo == hi then (cc.size, cc.size + 1) else (min lo cc.size, max hi (cc.size + 1)))) := by
    simp only [World.freeze]
    rw [if_neg (by decide)]
    simp [Array.getElem?_modify, g1]
  constructor
  · constructor
    · intro j o b' hj hMj
      by_cases ej : j = i
      · subst ej
        rw [ho] at hj; obtain rfl := Option.some.inj hj
        rw [hM] at hMj; obtain rfl := Option.some.inj hMj
        by_cases hlh : lo = hi
        · rw [if_pos (beq_iff_eq.2 hlh)] at hhere
          exact ⟨cc, _, _, hhere, g2, g3, g4, g5, (fun _ => .inr (Nat.le_refl _)), g7⟩
        · rw [if_neg (by simpa using hlh)] at hhere
          exact ⟨cc, _, _, hhere, g2, g3, g4, g5, (fun hr => .inr (by have := g6 hr; omega)), g7⟩
      · exact (r.live j o b' hj hMj).mono .rfl (hoth _ fun e' => ej (r.inj j i b' b (by simp [hj]) (by simp [ho]) hMj hM e'))
    · exact r.inj
    · exact r.fresh
    · exact r.glob
    · exact fun j b1 hj => by rw [hsz]; exact r.inb j b1 hj
    · exact r.ble
    · exact r.bnd
    · exact r.oldro
    · exact r.nb
  · exact ⟨.rfl, fun _ _ h => h, Nat.le_refl _, rfl, by rw [hsz]; exact Nat.le_refl _, by simp [World.freeze], by simp [World.freeze], by simp [World.freeze],
      (fun k _ hu => hoth k (fun e' => hu i b (by simp [ho]) hM e'.symm)), (fun k hk => hoth k (by have := r.nb i b hbase hM; omega)), fun j b1 hj hMj => .inr ⟨j, b1, hj, hMj, rfl⟩⟩
theorem convS_sound {P : Program} {M : Mp} {h : AHeap} {w : World} {src dst : TypeId} {x x' v : Value} (r : Rel M h w) (hx : VRel M x x') (hs : convS P h src dst x = some v) :
    ∃ v' w', (convert src dst x').run P w = .ok v' w' ∧ VRel M v v' ∧ Rel M h w' ∧ Post M h w M h w' := by
  have key : ∀ (i off len cap off' cap' : Nat) (b : Blk), M i = some b → convS P h src dst (.slice (some ⟨i, off, none⟩) len cap) = some v → VRel M (.slice (some ⟨i, off, none⟩) len cap) (.slice (some ⟨b.blk, off', none⟩) len cap') →
      ∃ v' w', (convert src dst (.slice (some ⟨b.blk, off', none⟩) len cap')).run P w = .ok v' w' ∧ VRel M v v' ∧ Rel M h w' ∧ Post M h w M h w' := by
    clear hs hx
    intro i off len cap off' cap' b hM hs hv
    simp only [convS] at hs
    split at hs
    · rename_i e hd
      split at hs
      · rename_i c el sz ti ro he ho
        split at hs
        · rename_i hc
          obtain ⟨rfl, hbase, _⟩ := hc
          obtain rfl := Option.some.inj hs
          obtain ⟨n, hsh, r', p'⟩ := r.mark ho hM hbase
          refine ⟨_, _, ?_, hv, r', p'⟩
          unfold convert
          simp only [Sem.run_bind, run_underlying hd, Result.andThen, run_underlying he, beq_self_eq_true, markStringish, run_shape, hsh, run_freeze, Sem.run_pure]
        · cases hs
      · cases hs
    · cases hs
  cases hx <;> first | (simp [convS, poison] at hs; done) | skip
  case slice i off len cap cap' b hM h1 h2 => exact key i off len cap _ cap' b hM hs (.slice i off len cap cap' b hM h1 h2)
  case slice00 i off a b hM =>
    simp only [convS] at hs
    split at hs
    · split at hs
      · rw [if_neg (fun h => h.2.2 rfl)] at hs; cases hs
      · cases hs
    · cases hs
  case slice0 i off off' cap' b hM h1 => exact key i off 0 0 _ cap' b hM hs (.slice0 i off off' cap' b hM h1)

/-! ### len, min, max -/
def lenE (P : Program) (h : AHeap) (t : TypeId) (v : Value) : Option Value :=
  match P.underlying t with
  | some .string => match v with | .string s => some (.int .i64 s.size) | _ => none
  | some (.slice _) => match v with | .slice _ n _ => some (.int .i64 n) | _ => none
  | some (.array n _) => some (.int .i64 n)
  | some (.pointer a) => match P.underlying a with | some (.array n _) => some (.int .i64 n) | _ => none
  | some (.map _ _) => match v with
    | .map none => some (.int .i64 0)
    | .map (some i) => match h.obj i with | some (.other (.map es _)) => some (.int .i64 es.size) | _ => none
    | _ => none
  | _ => none

theorem lenE_sound {P : Program} {M : Mp} {h : AHeap} {w : World} {t ty : TypeId} {x x' v : Value} {ts : Array TypeId} (r : Rel M h w) (hx : VRel M x x') (hs : lenE P h t x = some v) (ht : ts[0]? = some t) :
    (Builtin.len_ ts ty #[x']).run P w = .ok v w ∧ VRel M v v := by
  have e0 : (#[x'] : Array Value)[0]? = some x' := rfl
  unfold lenE at hs
  unfold Builtin.len_
  simp only [ht, e0]
  split at hs
  · rename_i hd
    split at hs
    · obtain rfl := Option.some.inj hs
      cases hx
      exact ⟨by simp [run_underlying hd, goInt, Result.andThen], .int _ _⟩
    · cases hs
  · rename_i e hd
    split at hs
    · obtain rfl := Option.some.inj hs
      cases hx <;> exact ⟨by simp [run_underlying hd, goInt, Result.andThen], .int _ _⟩
    · cases hs
  · rename_i n e hd
    obtain rfl := Option.some.inj hs
    exact ⟨by simp [run_underlying hd, goInt, Result.andThen], .int _ _⟩
  · rename_i a hd
    split at hs
    · rename_i n e hd2
      obtain rfl := Option.some.inj hs
      exact ⟨by simp [run_underlying hd, run_underlying hd2, goInt, Result.andThen], .int _ _⟩
    · cases hs
  · rename_i k e hd
    split at hs
    · obtain rfl := Option.some.inj hs
      cases hx
      exact ⟨by simp [run_underlying hd, goInt, Result.andThen], .int _ _⟩
    · split at hs
      · rename_i es clock ho
        obtain rfl := Option.some.inj hs
        cases hx
        rename_i b hM
        obtain ⟨es', g1, g2⟩ := r.live _ _ b ho hM
        refine ⟨?_, .int _ _⟩
        simp [run_underlying hd, goInt, Result.andThen, getObj, Sem.run, g1, g2.1]
      · cases hs
    · cases hs
  · cases hs

def min2A : Value → Value → Option Value
  | .int k x, .int _ y => some (.int k (if y < x then y else x))
  | _, _ => none
def max2A : Value → Value → Option Value
  | .int k x, .int _ y => some (.int k (if x < y then y else x))
  | _, _ => none
def foldA (f : Value → Value → Option Value) : Value → List Value → Option Value
  | x, [] => match x with | .int k n => some (.int k n) | _ => none
  | x, y :: l => (f x y).bind fun z => foldA f z l

theorem VRels.tail {M : Mp} {v v' : Value} {l l' : List Value} (h : VRels M (v :: l).toArray (v' :: l').toArray) : VRel M v v' ∧ VRels M l.toArray l'.toArray := by
  refine ⟨h.2 0 (by simp) (by simp), by have := h.1; simpa using this, fun j a b => ?_⟩
  have := h.2 (j + 1) (by simpa using a) (by simpa using b)
  simpa using this

theorem foldA_sound {P : Program} {M : Mp} {w : World} {f : Value → Value → Option Value} {g : Value → Value → Sem Value} (hf : ∀ x y z, f x y = some z → (g x y).run P w = .ok z w ∧ VRel M z z ∧ (∃ k n, x = .int k n) ∧ ∃ k n, y = .int k n) :
    ∀ (l l' : List Value) (x x' v : Value), VRel M x x' → VRels M l.toArray l'.toArray → foldA f x l = some v → (l'.foldlM g x').run P w = .ok v w ∧ VRel M v v
  | [], l', x, x', v, hx, hl, h => by
    obtain rfl : l' = [] := by have := hl.1; simp at this; exact List.length_eq_zero_iff.1 this.symm
    unfold foldA at h
    split at h
    · obtain rfl := Option.some.inj h
      cases hx
      exact ⟨rfl, .int _ _⟩
    · cases h
  | y :: l, l', x, x', v, hx, hl, h => by
    cases l' with
    | nil => have := hl.1; simp at this
    | cons y' l' =>
      obtain ⟨hy, hl'⟩ := hl.tail
      simp only [foldA, Option.bind_eq_some_iff] at h
      obtain ⟨z, hz, h⟩ := h
      obtain ⟨e1, e2, ⟨k, n, rfl⟩, ⟨k2, n2, rfl⟩⟩ := hf x y z hz
      cases hx; cases hy
      have ih := foldA_sound hf l l' z z v e2 hl' h
      exact ⟨by rw [List.foldlM_cons, Sem.run_bind, e1]; exact ih.1, ih.2⟩

theorem min2A_sound {P : Program} {M : Mp} {w : World} (x y z : Value) (h : min2A x y = some z) : (Builtin.min2 x y).run P w = .ok z w ∧ VRel M z z ∧ (∃ k n, x = .int k n) ∧ ∃ k n, y = .int k n := by
  unfold min2A at h
  split at h
  · obtain rfl := Option.some.inj h; exact ⟨rfl, .int _ _, ⟨_, _, rfl⟩, ⟨_, _, rfl⟩⟩
  · cases h
theorem max2A_sound {P : Program} {M : Mp} {w : World} (x y z : Value) (h : max2A x y = some z) : (Builtin.max2 x y).run P w = .ok z w ∧ VRel M z z ∧ (∃ k n, x = .int k n) ∧ ∃ k n, y = .int k n := by
  unfold max2A at h
  split at h
  · obtain rfl := Option.some.inj h; exact ⟨rfl, .int _ _, ⟨_, _, rfl⟩, ⟨_, _, rfl⟩⟩
  · cases h

/-! ### make of a slice -/
def makeSliceA (P : Program) (id : Nat) (t : TypeId) : Value → Value → Option (Value × AObj)
  | .int _ l, .int _ c => match P.underlying t with
    | some (.slice e) => match tsz P e, tby P e, tzero P e with
      | some sz, some by_, some z =>
        if 0 ≤ l ∧ l ≤ c ∧ c ≤ 9223372036854775807 ∧ (by_ : Int) * c ≤ 281474976710656 ∧ z.cells.size = sz ∧ sz ≠ 0 ∧ z.cells.toList.all constCell = true then
          some (.slice (some ⟨id, 0, none⟩) l.toNat c.toNat, .row (zeros z.cells (c.toNat * sz)).toList e sz true false)
        else none
      | _, _, _ => none
    | _ => none
  | _, _ => none

theorem makeSliceA_sound {P : Program} {M : Mp} {w : World} {id : Nat} {t : TypeId} {x x' y y' u : Value} {o : AObj} (hx : VRel M x x') (hy : VRel M y y') (hs : makeSliceA P id t x y = some (u, o)) :
    AllocOk P M w id (Instr.makeSlice t x' y') u o := by
  unfold makeSliceA at hs
  split at hs
  · rename_i k l k2 c
    cases hx; cases hy
    split at hs
    · rename_i e hd
      split at hs
      · rename_i sz by_ z hsz hby hz
        split at hs
        · rename_i hc
          obtain ⟨h0, hlc, hmax, hb, hzs, hs0, hall⟩ := hc
          simp only [Option.some.injEq, Prod.mk.injEq] at hs
          obtain ⟨rfl, rfl⟩ := hs
          refine AllocOk.row (vc := .slice (some ⟨w.heap.size, 0, none⟩) l.toNat c.toNat) (ccs := zeros z.cells (c.toNat * sz)) (VRels.refl (M := M) (zeros_const (n := c.toNat * sz) hall (.inl (by omega)))) ?_
            (fun M' h => .slice id 0 l.toNat c.toNat c.toNat _ h (by omega) (.inl rfl))
          have hwl : IntKind.i64.wrap l = l := IntWalk.i64_in l ⟨by omega, by omega⟩
          have hwc : IntKind.i64.wrap c = c := IntWalk.i64_in c ⟨by omega, by omega⟩
          obtain ⟨i, hi, rfl⟩ := run_tby w hby
          unfold Instr.makeSlice
          have hq1 : (decide (c < 0) || decide ((i.bytes : Int) * c > 2 ^ 48)) = false := by
            simp only [Bool.or_eq_false_iff, decide_eq_false_iff_not]; omega
          have hq2 : (decide (l < 0)) = false := by simp only [decide_eq_false_iff_not]; omega
          have hq3 : (decide (l > c)) = false := by simp only [decide_eq_false_iff_not]; omega
          simp only [Sem.run_bind, run_underlying hd, Result.andThen, asInt, asIntOf, Sem.run_pure, hi, hwl, hwc, hq1, hq2, hq3, Bool.or_false, Bool.false_eq_true, if_false, Sem.run_ite, run_askRoom, run_tsz w hsz]
          by_cases hn : c.toNat * sz = 0
          · have e3 : zeros z.cells (c.toNat * sz) = #[] := by simp [hn, zeros]
            rw [e3]
            have e4 : Array.range 0 = #[] := rfl
            simp only [hn, if_true, e4, List.map_toArray, List.map_nil, Array.map_empty, newRow, Sem.run_bind, run_newObj, Result.andThen, Sem.run_pure, Nat.add_zero]
          · simp only [hn, if_false, run_tzero w hz, Result.andThen, newRow, Sem.run_bind, run_newObj, Sem.run_pure, Nat.add_zero]
            rfl
        · cases hs
      · cases hs
    · cases hs
  · cases hs
end Ab
