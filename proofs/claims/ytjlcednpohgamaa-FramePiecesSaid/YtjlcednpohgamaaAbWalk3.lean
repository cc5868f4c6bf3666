import Derived.Test.YtjlcednpohgamaaAbRecs2
namespace Ab
open Go
set_option autoImplicit false
set_option linter.unusedVariables false
set_option linter.unusedSimpArgs false

/-- Ways that meet again, where the walk already stands at the parting. -/
theorem AWP.cutT {P : Program} {Q Q2 : Exit → St → AHeap → Prop} {s : St} {h : AHeap} {x y : Code} (ts : List Nat) (I : St → AHeap → Prop) (k : AWP P x (thn (fun s h => I (s.only ts) h) Q2) s h) (k2 : ∀ s h, I s h → AWP P y Q s h) : AWP P x (thn (AWP P y Q) Q2) s h :=
  k.mono fun e s h q => by cases e <;> first | exact AWP.only ts (k2 _ _ q) | exact q

/-! ### Pieces in another order, and some let go -/
/-- A stands in L; the others are L'. -/
inductive Fnd : List Chunk → Chunk → List Chunk → Prop
  | head (A : Chunk) (L : List Chunk) : Fnd (A :: L) A L
  | tail (A B : Chunk) (L L' : List Chunk) : Fnd L A L' → Fnd (B :: L) A (B :: L')
theorem Fnd.perm {L L' : List Chunk} {A : Chunk} (h : Fnd L A L') : L.Perm (A :: L') := by
  induction h with
  | head A L => exact List.Perm.refl _
  | tail A B L L' _ ih => exact (ih.cons B).trans (List.Perm.swap A B L')
inductive Sbl : List Chunk → List Chunk → Prop
  | rfl (L : List Chunk) : Sbl L L
  | nil (L : List Chunk) : Sbl L []
  | skip (A : Chunk) (L R : List Chunk) : Sbl L R → Sbl (A :: L) R
  | cons (A : Chunk) (L L' T : List Chunk) : Fnd L A L' → Sbl L' T → Sbl L (A :: T)
theorem Sat.sbl {L T : List Chunk} (s : Sbl L T) : ∀ {g : PH}, Sat g L → Sat g T := by
  induction s with
  | rfl L => exact fun h => h
  | nil L => exact fun _ => trivial
  | skip A L R _ ih => exact fun ⟨f, a, l, k⟩ => ih (k.mono PH.minus_le)
  | cons A L L' T f _ ih =>
    intro g h
    obtain ⟨p, a, l, k⟩ := h.perm f.perm
    exact ⟨p, a, l, ih k⟩
theorem Own.sbl {O : Old} {h : AHeap} {L T : List Chunk} (s : Sbl L T) (k : Own O h L) : Own O h T := k.weaken fun h => Sat.sbl s h
/-- Some low bits of a number. -/
theorem and_mask (z : Int) (m : Nat) (hm : m < 9223372036854775808) : ∃ x : Nat, x ≤ m ∧ IntKind.i64.wrap ((@BitVec.toNat 64 (@HAnd.hAnd (BitVec 64) (BitVec 64) (BitVec 64) (@instHAndOfAndOp (BitVec IntKind.i64.bits) (@BitVec.instAndOp IntKind.i64.bits)) (BitVec.ofInt 64 z) (BitVec.ofNat 64 m)) : Nat) : Int) = (x : Int) := by
  have h : (BitVec.ofInt 64 z &&& BitVec.ofNat 64 m).toNat ≤ m := by
    rw [BitVec.toNat_and, BitVec.toNat_ofNat]
    refine Nat.le_trans Nat.and_le_right (Nat.mod_le _ _)
  exact ⟨_, h, wI64 (by omega) (by exact Int.le_trans (Int.ofNat_le.2 h) (by omega))⟩
theorem tmod_nat (a b : Nat) : (a : Int).tmod (b : Int) = ((a % b : Nat) : Int) := rfl
end Ab
