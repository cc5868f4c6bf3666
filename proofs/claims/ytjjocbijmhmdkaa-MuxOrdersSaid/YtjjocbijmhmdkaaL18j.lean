import Derived.Test.YtjjocbijmhmdkaaL18i
open Go Ab Go.Proofs
namespace L18
set_option autoImplicit false
set_option linter.unusedSimpArgs false
set_option linter.unusedVariables false
attribute [local irreducible] mcells
def mcut (ch : Nat) (w : List UInt8) (cr : Int) : List Fr × List UInt8 × Int :=
  if h : 0 < w.length ∧ 0 < cr then
    let n := min (min w.length cr.toNat) 512
    let r := mcut ch (w.drop n) (cr - n)
    (((ch : Int), w.take n) :: r.1, r.2)
  else ([], w, cr)
termination_by w.length
decreasing_by simp; omega
theorem mcut_stop {ch : Nat} {w : List UInt8} {cr : Int} (h : ¬ (0 < w.length ∧ 0 < cr)) : mcut ch w cr = ([], w, cr) := by
  rw [mcut, dif_neg h]
theorem mcut_step {ch : Nat} {w : List UInt8} {cr : Int} (h : 0 < w.length ∧ 0 < cr) {n : Nat} (hn : n = min (min w.length cr.toNat) 512) : mcut ch w cr = (((ch : Int), w.take n) :: (mcut ch (w.drop n) (cr - n)).1, (mcut ch (w.drop n) (cr - n)).2) := by
  rw [mcut, dif_pos h, ← hn]
theorem mcut_len (ch : Nat) : ∀ (k : Nat) (w : List UInt8) (cr : Int), w.length ≤ k → 0 ≤ cr → (mcut ch w cr).1.length ≤ w.length ∧ (mcut ch w cr).2.1.length ≤ w.length ∧ 0 ≤ (mcut ch w cr).2.2 ∧ (mcut ch w cr).2.2 ≤ cr
  | k, w, cr, hk, hc => by
    by_cases h : 0 < w.length ∧ 0 < cr
    · obtain ⟨n, hn⟩ : ∃ n, n = min (min w.length cr.toNat) 512 := ⟨_, rfl⟩
      rw [mcut_step h hn]
      match k with
      | 0 => omega
      | k + 1 =>
        have := mcut_len ch k (w.drop n) (cr - n) (by simp; omega) (by omega)
        simp at this ⊢
        omega
    · rw [mcut_stop h]; simp; exact hc
def mend (x : Hf) (w : List UInt8) : Bool := x.closed && (!x.told && w.isEmpty)
def mout1 (o : List Hf) (i : List Ot) (c : Nat) : List Fr × List Hf × List Ot :=
  let x := hg o c
  let r := mcut c x.wait x.credit
  let e := mend x r.2.1
  let y := og i c
  (r.1 ++ ((if e then [toldF 2 c 0] else []) ++ (if 0 < y.untold then [toldF 1 c y.untold.toNat] else [])),
    o.set c ⟨r.2.1, r.2.2, x.closed, x.told || e⟩, if 0 < y.untold then i.set c ⟨y.come, y.room + y.untold, 0, y.ended⟩ else i)
def moutN (o : List Hf) (i : List Ot) : Nat → List Fr × List Hf × List Ot
  | 0 => ([], o, i)
  | j + 1 => ((moutN o i j).1 ++ (mout1 (moutN o i j).2.1 (moutN o i j).2.2 j).1, (mout1 (moutN o i j).2.1 (moutN o i j).2.2 j).2)
def mout (o : List Hf) (i : List Ot) := moutN o i 4

/-! ### What stays true -/
theorem MI.setO {o : List Hf} {i : List Ot} (k : MI o i) {c : Nat} {x : Hf} (h1 : x.wait.length ≤ 4096) (h2 : 0 ≤ x.credit) (h3 : x.credit ≤ 1024) : MI (o.set c x) i := by
  have key : ∀ d, hg (o.set c x) d = hg o d ∨ hg (o.set c x) d = x := fun d => by
    by_cases hd : d = c
    · subst hd
      by_cases hl : d < o.length
      · exact .inr (hg_set hl)
      · left; rw [List.set_eq_of_length_le (by omega)]
    · exact .inl (hg_ne hd)
  refine ⟨by simp [k.ol], k.il, fun d => ?_, fun d => ?_, fun d => ?_, k.sum, k.r0, k.u0⟩ <;> rcases key d with e | e <;> rw [e]
  · exact k.w d
  · exact h1
  · exact k.cr0 d
  · exact h2
  · exact k.cr1 d
  · exact h3
theorem MI.setI {o : List Hf} {i : List Ot} (k : MI o i) {c : Nat} {x : Ot} (h1 : (x.come.length : Int) + x.room + x.untold = 1024) (h2 : 0 ≤ x.room) (h3 : 0 ≤ x.untold) : MI o (i.set c x) := by
  have key : ∀ d, og (i.set c x) d = og i d ∨ og (i.set c x) d = x := fun d => by
    by_cases hd : d = c
    · subst hd
      by_cases hl : d < i.length
      · exact .inr (og_set hl)
      · left; rw [List.set_eq_of_length_le (by omega)]
    · exact .inl (og_ne hd)
  refine ⟨k.ol, by simp [k.il], k.w, k.cr0, k.cr1, fun d hd => ?_, fun d => ?_, fun d => ?_⟩ <;> rcases key d with e | e <;> rw [e]
  · exact k.sum d hd
  · exact h1
  · exact k.r0 d
  · exact h2
  · exact k.u0 d
  · exact h3
theorem MI.new : MI (zo 4) (zi 4) := by
  have e1 : ∀ c, hg (zo 4) c = ⟨[], 1024, false, false⟩ ∨ hg (zo 4) c = hz := fun c => by
    match c with
    | 0 => exact .inl rfl
    | 1 => exact .inl rfl
    | 2 => exact .inl rfl
    | 3 => exact .inl rfl
    | c + 4 => exact .inr rfl
  have e2 : ∀ c, og (zi 4) c = ⟨[], 1024, 0, false⟩ ∨ (4 ≤ c ∧ og (zi 4) c = oz) := fun c => by
    match c with
    | 0 => exact .inl rfl
    | 1 => exact .inl rfl
    | 2 => exact .inl rfl
    | 3 => exact .inl rfl
    | c + 4 => exact .inr ⟨by omega, rfl⟩
  refine ⟨rfl, rfl, fun c => ?_, fun c => ?_, fun c => ?_, fun c hc => ?_, fun c => ?_, fun c => ?_⟩
  · rcases e1 c with e | e <;> rw [e] <;> simp [hz]
  · rcases e1 c with e | e <;> rw [e] <;> simp [hz]
  · rcases e1 c with e | e <;> rw [e] <;> simp [hz]
  · rcases e2 c with e | ⟨h, e⟩
    · rw [e]; simp
    · omega
  · rcases e2 c with e | ⟨h, e⟩ <;> rw [e] <;> simp [oz]
  · rcases e2 c with e | ⟨h, e⟩ <;> rw [e] <;> simp [oz]
theorem MI.write {o : List Hf} {i : List Ot} (k : MI o i) (c : Int) (d : List UInt8) : MI (mwrite o c d).2 i := by
  unfold mwrite
  have := k.w c.toNat
  split
  · exact k
  · split
    · exact k
    · exact k.setO (by simp; omega) (k.cr0 _) (k.cr1 _)
theorem MI.close {o : List Hf} {i : List Ot} (k : MI o i) (c : Int) : MI (mclose o c).2 i := by
  unfold mclose
  split
  · exact k
  · exact k.setO (k.w _) (k.cr0 _) (k.cr1 _)
theorem MI.read {o : List Hf} {i : List Ot} (k : MI o i) (c most : Int) : MI o (mread i c most).2 := by
  unfold mread
  split
  · exact k
  · have := k.sum c.toNat (by omega)
    have := k.u0 c.toNat
    exact k.setI (by simp; omega) (k.r0 _) (by simp only; omega)
theorem MI.ctrl {o : List Hf} {i : List Ot} (k : MI o i) (d : List UInt8) : MI (mctrl o i d).2.1 (mctrl o i d).2.2 := by
  unfold mctrl
  split
  · rename_i b0 b1 b2 b3
    have := k.cr0 b1.toNat
    simp only
    repeat' split
    all_goals first
      | exact k
      | exact k.setO (k.w _) (by simp only; omega) (by simp only; omega)
      | exact k.setI (k.sum _ (by omega)) (k.r0 _) (k.u0 _)
  · exact k
theorem MI.take {o : List Hf} {i : List Ot} (k : MI o i) (f : Fr) : MI (mtake o i f).2.1 (mtake o i f).2.2 := by
  unfold mtake
  split
  · exact k.ctrl _
  · split
    · exact k
    · have := k.sum f.1.toNat (by omega)
      have := k.r0 f.1.toNat
      simp only
      repeat' split
      all_goals first
        | exact k
        | exact k.setI (by simp; omega) (by simp only; omega) (k.u0 _)
theorem MI.out1 {o : List Hf} {i : List Ot} (k : MI o i) {c : Nat} (hc : c < 4) : MI (mout1 o i c).2.1 (mout1 o i c).2.2 := by
  have h1 := mcut_len c _ (hg o c).wait (hg o c).credit (Nat.le_refl _) (k.cr0 c)
  have h2 := k.w c
  have h3 := k.cr1 c
  have h4 := k.sum c hc
  have h5 := k.r0 c
  have h6 := k.u0 c
  have k1 : MI (mout1 o i c).2.1 i := k.setO (by simp only; omega) (by simp only; omega) (by simp only; omega)
  simp only [mout1] at k1 ⊢
  split
  · exact k1.setI (by simp only; omega) (by simp only; omega) (by simp only; omega)
  · exact k1
theorem out1_len {o : List Hf} {i : List Ot} (k : MI o i) (c : Nat) : (mout1 o i c).1.length ≤ 4098 := by
  have h1 := mcut_len c _ (hg o c).wait (hg o c).credit (Nat.le_refl _) (k.cr0 c)
  have h2 := k.w c
  simp only [mout1, List.length_append]
  have a1 : ∀ (b : Bool) (x : Fr), (if b = true then [x] else []).length ≤ 1 := fun b x => by cases b <;> simp
  have a2 : ∀ (p : Prop) [Decidable p] (x : Fr), (if p then [x] else []).length ≤ 1 := fun p _ x => by split <;> simp
  have := a1 (mend (hg o c) (mcut c (hg o c).wait (hg o c).credit).2.1) (toldF 2 c 0)
  have := a2 (0 < (og i c).untold) (toldF 1 c (og i c).untold.toNat)
  omega
theorem MI.outN {o : List Hf} {i : List Ot} (k : MI o i) : ∀ j, j ≤ 4 → MI (moutN o i j).2.1 (moutN o i j).2.2 ∧ (moutN o i j).1.length ≤ j * 4098
  | 0, _ => ⟨k, by simp [moutN]⟩
  | j + 1, hj => by
    obtain ⟨h1, h2⟩ := MI.outN k j (by omega)
    have := out1_len h1 j
    refine ⟨h1.out1 (by omega), ?_⟩
    simp only [moutN, List.length_append]
    omega
theorem MI.out {o : List Hf} {i : List Ot} (k : MI o i) : MI (mout o i).2.1 (mout o i).2.2 := (k.outN 4 (by omega)).1
end L18
