import Derived.Test.YtjjocbijmhmdkaaAbG
namespace Ab
open Go
set_option autoImplicit false
set_option linter.unusedVariables false
set_option linter.unusedSimpArgs false

/-! ### append -/
/-- The elements that a slice or a text holds, as cells. -/
def srcCells (h : AHeap) (sz : Nat) : Value → Option (Nat × List Value)
  | .slice none _ _ => some (0, [])
  | .slice (some ⟨i, off, none⟩) len _ => match h.obj i with
    | some (.row c _ _ _ _) => if off + len * sz ≤ c.length then some (len, (c.drop off).take (len * sz)) else none
    | _ => if len = 0 then some (0, []) else none
  | .string s => if sz = 1 then some (s.size, s.data.toList.map B) else none
  | _ => none

theorem srcCells_sound {P : Program} {M : Mp} {h : AHeap} {w : World} {sz n : Nat} {l : List Value} {x x' : Value} (r : Rel M h w) (hx : VRel M x x') (hs : srcCells h sz x = some (n, l)) :
    ∃ cs : Array Value, (Builtin.lenOf x').run P w = .ok n w ∧ (Builtin.firstCells sz n x').run P w = .ok cs w ∧ VRels M l.toArray cs ∧ l.length = n * sz := by
  cases hx <;> simp only [srcCells, poison] at hs <;> first | (cases hs; done) | skip
  case string s =>
    split at hs
    · rename_i h1
      subst h1
      simp only [Option.some.injEq, Prod.mk.injEq] at hs
      obtain ⟨rfl, rfl⟩ := hs
      refine ⟨s.data.map fun b => .int .u8 b.toNat, rfl, ?_, ?_, by rw [Nat.mul_one, List.length_map, Array.length_toList]; rfl⟩
      · simp only [Builtin.firstCells, Sem.run_pure]
        congr 2
        exact congrArg ByteArray.data (ByteArray.extract_zero_size (b := s))
      · refine ⟨by simp, fun j h1 h2 => ?_⟩
        simp only [List.getElem_toArray, List.getElem_map, Array.getElem_map, Array.getElem_toList]
        exact .int _ _
    · cases hs
  case nilSlice =>
    simp only [Option.some.injEq, Prod.mk.injEq] at hs
    obtain ⟨rfl, rfl⟩ := hs
    exact ⟨#[], rfl, rfl, ⟨rfl, fun j h1 h2 => absurd h1 (by simp)⟩, by simp⟩
  case slice i off len cap cap' b hM h1 h2 =>
    split at hs
    · rename_i c e esz ti ro ho
      split at hs
      · rename_i hoff
        simp only [Option.some.injEq, Prod.mk.injEq] at hs
        obtain ⟨rfl, rfl⟩ := hs
        obtain ⟨cs, hcs, hr⟩ := r.cells (P := P) ho hM hoff
        exact ⟨cs, rfl, hcs, hr, by simp; omega⟩
      · cases hs
    · split at hs
      · rename_i hl
        subst hl
        simp only [Option.some.injEq, Prod.mk.injEq] at hs
        obtain ⟨rfl, rfl⟩ := hs
        exact ⟨#[], rfl, by simp [Builtin.firstCells, loadCells, loadCellsFrom], ⟨rfl, fun j h1 h2 => absurd h1 (by simp)⟩, by simp⟩
      · cases hs
  case slice00 i off a b hM =>
    have hz : n = 0 ∧ l = [] := by
      split at hs
      · split at hs
        · simp only [Option.some.injEq, Prod.mk.injEq] at hs
          obtain ⟨rfl, rfl⟩ := hs
          simp
        · cases hs
      · simp only [if_true, Option.some.injEq, Prod.mk.injEq] at hs
        exact ⟨hs.1.symm, hs.2.symm⟩
    obtain ⟨rfl, rfl⟩ := hz
    exact ⟨#[], rfl, by simp [Builtin.firstCells, loadCells, loadCellsFrom], ⟨rfl, fun j h1 h2 => absurd h1 (by simp)⟩, by simp⟩
  case slice0 i off off' cap' b hM h1 =>
    have hz : n = 0 ∧ l = [] := by
      split at hs
      · split at hs
        · simp only [Option.some.injEq, Prod.mk.injEq] at hs
          obtain ⟨rfl, rfl⟩ := hs
          simp
        · cases hs
      · simp only [if_true, Option.some.injEq, Prod.mk.injEq] at hs
        exact ⟨hs.1.symm, hs.2.symm⟩
    obtain ⟨rfl, rfl⟩ := hz
    exact ⟨#[], rfl, by simp [Builtin.firstCells, loadCells, loadCellsFrom], ⟨rfl, fun j h1 h2 => absurd h1 (by simp)⟩, by simp⟩

/-- Is the second operand's type none of numbers (that form is 'append of make')? -/
def noInt (P : Program) (t : TypeId) : Bool :=
  match P.underlying t with
  | some (.slice _) | some .string => true
  | _ => false

theorem run_append_room' {P : Program} {w w' : World} {t xt ty e : TypeId} {sz n sLen sCap : Nat} {base : Option Addr} {x : Value} {news : Array Value} (ht : P.underlying t = some (.slice e)) (hx : noInt P xt = true) (hsz : tsz P e = some sz)
    (hl : (Builtin.lenOf x).run P w = .ok n w) (hf : (Builtin.firstCells sz n x).run P w = .ok news w) (hroom : sLen + n ≤ sCap)
    (hst : (match base with | some a => storeCells (a.add (sLen * sz)) news.toList | none => pure ()).run P w = .ok () w') :
    (Builtin.append_ #[t, xt] ty #[.slice base sLen sCap, x]).run P w = .ok (.slice base (sLen + n) sCap) w' := by
  have hxt : (∃ d, P.underlying xt = some (.slice d)) ∨ P.underlying xt = some .string := by
    unfold noInt at hx
    split at hx
    · rename_i d hd; exact .inl ⟨d, hd⟩
    · rename_i hd; exact .inr hd
    · cases hx
  unfold Builtin.append_
  simp only [Array.getElem?_eq_getElem, List.size_toArray, List.length_cons, List.length_nil, Nat.zero_lt_succ, Nat.lt_add_one, List.getElem_toArray, List.getElem_cons_zero, List.getElem_cons_succ, Nat.reduceLT, Nat.zero_add, Nat.reduceAdd]
  rcases hxt with ⟨d, hd⟩ | hd <;>
  · simp only [Sem.run_bind, run_underlying ht, Result.andThen, run_tsz w hsz, run_underlying hd, Sem.run_pure]
    simp only [Bool.false_eq_true, if_false, hl, hroom, if_true, Bool.not_false, Sem.run_bind, hf, Result.andThen]
    cases base with
    | none =>
      simp only [Sem.run_pure] at hst ⊢
      injection hst with h1 h2
      rw [h2]
    | some a =>
      simp only [Sem.run_bind] at hst ⊢
      rw [hst]
      rfl

theorem run_append_grow' {P : Program} {w : World} {t xt ty e : TypeId} {sz by_ n sLen sCap : Nat} {base : Option Addr} {x z : Value} {news old : Array Value} (ht : P.underlying t = some (.slice e)) (hx : noInt P xt = true) (hsz : tsz P e = some sz)
    (hby : tby P e = some by_) (hz : tzero P e = some z) (h0 : 0 < by_)
    (hl : (Builtin.lenOf x).run P w = .ok n w) (hf : (Builtin.firstCells sz n x).run P w.drew = .ok news w.drew) (ho : (Builtin.firstCells sz sLen (.slice base sLen sCap)).run P w.drew = .ok old w.drew) (hroom : sCap < sLen + n)
    (hb : (sLen + n) * by_ ≤ 140737488355328) :
    (Builtin.append_ #[t, xt] ty #[.slice base sLen sCap, x]).run P w = .ok (.slice (some ⟨w.heap.size, 0, none⟩) (sLen + n) (grownCap w (sLen + n) sCap e))
      { w.drew with heap := w.heap.push (.cells (old ++ news ++ Builtin.zeroCells z.cells (grownCap w (sLen + n) sCap e - (sLen + n))) e) } := by
  have hxt : (∃ d, P.underlying xt = some (.slice d)) ∨ P.underlying xt = some .string := by
    unfold noInt at hx
    split at hx
    · rename_i d hd; exact .inl ⟨d, hd⟩
    · rename_i hd; exact .inr hd
    · cases hx
  obtain ⟨i, hi, rfl⟩ := run_tby w hby
  obtain ⟨i2, hi2, hi3⟩ := run_tby w.drew hby
  have hfit := growslice_fits hroom hb
  have h1 : ¬ (((sLen + n : Nat) : Int) > IntKind.i64.max ∧ (False ∨ i.bytes = 0)) := by rintro ⟨_, h | h⟩; exact h; omega
  have h2 : ¬ (Builtin.nextslicecap (sLen + n) sCap * i.bytes > 2 ^ 48) := by omega
  unfold Builtin.append_
  simp only [Array.getElem?_eq_getElem, List.size_toArray, List.length_cons, List.length_nil, Nat.zero_lt_succ, Nat.lt_add_one, List.getElem_toArray, List.getElem_cons_zero, List.getElem_cons_succ, Nat.reduceLT, Nat.zero_add, Nat.reduceAdd]
  have hcap : (Question.appendCap (sLen + n) sCap e).cut (w.tape w.drawn (.appendCap (sLen + n) sCap e)) = grownCap w (sLen + n) sCap e := rfl
  have hi2' : (typeInfo e).run P { w with drawn := w.drawn + 1 } = .ok i2 w.drew := hi2
  have ho' : (Builtin.firstCells sz sLen (.slice base sLen sCap)).run P { w with drawn := w.drawn + 1 } = .ok old w.drew := ho
  rcases hxt with ⟨d, hd⟩ | hd <;>
  · simp only [Sem.run_bind, run_underlying ht, Result.andThen, run_tsz w hsz, run_underlying hd, Sem.run_pure]
    simp only [Bool.false_eq_true, if_false, hl, Nat.not_le.2 hroom, Sem.run_bind, hi, Result.andThen, Sem.run_ite, h1, h2, if_false, Sem.run_pure, run_choose, Question.forced]
    simp only [hcap, hi2', run_askRoom, Result.andThen]
    simp only [ho, hf, Bool.not_false, if_true, run_tzero w.drew hz, Result.andThen, newRow, Sem.run_bind, run_newObj, Sem.run_pure]
    rfl
end Ab
