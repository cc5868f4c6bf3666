import Derived.Test.YtjjocbijmhmdkaaAbRecs2
namespace Ab
open Go
set_option autoImplicit false
set_option linter.unusedVariables false
set_option linter.unusedSimpArgs false

/-- Ways that meet again, where the walk already stands at the parting. -/
theorem AWP.cutT {P : Program} {Q Q2 : Exit → St → AHeap → Prop} {s : St} {h : AHeap} {x y : Code} (ts : List Nat) (I : St → AHeap → Prop) (k : AWP P x (thn (fun s h => I (s.only ts) h) Q2) s h) (k2 : ∀ s h, I s h → AWP P y Q s h) : AWP P x (thn (AWP P y Q) Q2) s h :=
  k.mono fun e s h q => by cases e <;> first | exact AWP.only ts (k2 _ _ q) | exact q

/-! ### Pieces in another order, and some let go -/
/-- A stands in L; the others are L'. -/
inductive Fnd : List Chunk → Chunk → List Chunk → Prop
  | head (A : Chunk) (L : List Chunk) : Fnd (A :: L) A L
  | tail (A B : Chunk) (L L' : List Chunk) : Fnd L A L' → Fnd (B :: L) A (B :: L')
theorem Fnd.perm {L L' : List Chunk} {A : Chunk} (h : Fnd L A L') : L.Perm (A :: L') := by
  induction h with
  | head A L => exact List.Perm.refl _
  | tail A B L L' _ ih => exact (ih.cons B).trans (List.Perm.swap A B L')
inductive Sbl : List Chunk → List Chunk → Prop
  | rfl (L : List Chunk) : Sbl L L
  | nil (L : List Chunk) : Sbl L []
  | skip (A : Chunk) (L R : List Chunk) : Sbl L R → Sbl (A :: L) R
  | cons (A : Chunk) (L L' T : List Chunk) : Fnd L A L' → Sbl L' T → Sbl L (A :: T)
theorem Sat.sbl {L T : List Chunk} (s : Sbl L T) : ∀ {g : PH}, Sat g L → Sat g T := by
  induction s with
  | rfl L => exact fun h => h
  | nil L => exact fun _ => trivial
  | skip A L R _ ih => exact fun ⟨f, a, l, k⟩ => ih (k.mono PH.minus_le)
  | cons A L L' T f _ ih =>
    intro g h
    obtain ⟨p, a, l, k⟩ := h.perm f.perm
    exact ⟨p, a, l, ih k⟩
theorem Own.sbl {O : Old} {h : AHeap} {L T : List Chunk} (s : Sbl L T) (k : Own O h L) : Own O h T := k.weaken fun h => Sat.sbl s h
theorem AWP.cut2 {P : Program} {Q Q1 Q2 : Exit → St → AHeap → Prop} {s : St} {h : AHeap} {x y z : Code} (ts : List Nat) (I : St → AHeap → Prop) (k : AWP P x (thn (AWP P y (thn (fun s h => I (s.only ts) h) Q1)) Q2) s h) (k2 : ∀ s h, I s h → AWP P z Q s h) : AWP P x (thn (AWP P y (thn (AWP P z Q) Q1)) Q2) s h :=
  k.mono fun e s h q => by cases e <;> first | exact AWP.cutT ts I q k2 | exact q

/-- Some low bits of a number. -/
theorem and_mask (z : Int) (m : Nat) (hm : m < 9223372036854775808) : ∃ x : Nat, x ≤ m ∧ IntKind.i64.wrap ((@BitVec.toNat 64 (@HAnd.hAnd (BitVec 64) (BitVec 64) (BitVec 64) (@instHAndOfAndOp (BitVec IntKind.i64.bits) (@BitVec.instAndOp IntKind.i64.bits)) (BitVec.ofInt 64 z) (BitVec.ofNat 64 m)) : Nat) : Int) = (x : Int) := by
  have h : (BitVec.ofInt 64 z &&& BitVec.ofNat 64 m).toNat ≤ m := by
    rw [BitVec.toNat_and, BitVec.toNat_ofNat]
    refine Nat.le_trans Nat.and_le_right (Nat.mod_le _ _)
  exact ⟨_, h, wI64 (by omega) (by exact Int.le_trans (Int.ofNat_le.2 h) (by omega))⟩
theorem tmod_nat (a b : Nat) : (a : Int).tmod (b : Int) = ((a % b : Nat) : Int) := rfl

theorem setL_full : ∀ (vs pre zs : List Value), zs.length = vs.length → setL (pre ++ zs) pre.length vs = pre ++ vs
  | [], pre, zs, h => by
    obtain rfl : zs = [] := List.length_eq_zero_iff.1 (by simpa using h)
    simp [setL]
  | v :: vs, pre, [], h => by simp at h
  | v :: vs, pre, z :: zs, h => by
    rw [setL]
    have e : (pre ++ z :: zs).set pre.length v = (pre ++ [v]) ++ zs := by simp
    have e2 : pre.length + 1 = (pre ++ [v]).length := by simp
    rw [e, e2, setL_full vs (pre ++ [v]) zs (by simpa using h)]
    simp
theorem okAll_B (bs : List UInt8) : okAll (bs.map B) = true := by
  induction bs with
  | nil => rfl
  | cons b bs ih => simp [okAll, ih, B, go_sem]
attribute [go_sem] okAll_B

/-! ### Two and three new objects -/
section
variable (h : AHeap) (a b c : AObj)
theorem push2_0 : ((h.push a).push b).obj h.next = some a := by rw [push_ne _ _ _ (by rw [push_next]; omega), push_self]
theorem push2_1 : ((h.push a).push b).obj (h.next + 1) = some b := push_self (h.push a) b
theorem push3_0 : (((h.push a).push b).push c).obj h.next = some a := by rw [push_ne _ _ _ (by rw [push_next, push_next]; omega), push2_0]
theorem push3_1 : (((h.push a).push b).push c).obj (h.next + 1) = some b := by rw [push_ne _ _ _ (by rw [push_next, push_next]; omega), push2_1]
theorem push3_2 : (((h.push a).push b).push c).obj (h.next + 1 + 1) = some c := push_self ((h.push a).push b) c
theorem push3_2' : (((h.push a).push b).push c).obj (h.next + 2) = some c := push_self ((h.push a).push b) c
end
attribute [go_sem] push2_0 push2_1 push3_0 push3_1 push3_2 push3_2'

/-! ### Records, whole -/
theorem foldl_full : ∀ (vs pre zs : List Value) (k off : Nat), zs.length = vs.length → pre.length = off + k → (vs.zipIdx k).foldl (fun (cs : Array Value) p => cs.setIfInBounds (off + p.2) p.1) (pre ++ zs).toArray = (pre ++ vs).toArray
  | [], pre, zs, k, off, h, _ => by
    obtain rfl : zs = [] := List.length_eq_zero_iff.1 (by simpa using h)
    simp
  | v :: vs, pre, [], k, off, h, _ => by simp at h
  | v :: vs, pre, z :: zs, k, off, h, hp => by
    rw [List.zipIdx_cons, List.foldl_cons]
    have e : (pre ++ z :: zs).toArray.setIfInBounds (off + k) v = ((pre ++ [v]) ++ zs).toArray := by
      apply Array.ext'
      rw [Array.toList_setIfInBounds]
      show (pre ++ z :: zs).set (off + k) v = (pre ++ [v]) ++ zs
      rw [← hp]; simp
    simp only [e]
    rw [foldl_full vs (pre ++ [v]) zs (k + 1) off (by simpa using h) (by simp; omega)]
    simp
theorem buildSlice1 {P : Program} {t e : TypeId} {n id : Nat} {z : Value} {cs : List Value} (ht : P.underlying t = some (.slice e)) (hs : tsz P e = some n) (hz : tzero P e = some z) (h0 : n ≠ 0) (hzs : z.cells.size ≠ 0) (hn : n ≤ 16777216) (hc : z.cells.toList.all constCell = true) (hl : cs.length = n) :
    buildSliceA P id t 1 [(0, .agg cs.toArray)] = some (.slice (some ⟨id, 0, none⟩) 1 1, .row cs e n true false) := by
  simp only [buildSliceA, ht, hs, hz]
  rw [if_pos ⟨h0, hzs, by omega, hc⟩]
  have ec : (Value.agg cs.toArray).cells = cs.toArray := rfl
  simp only [Instr.fill, ec, List.size_toArray, hl, ne_eq, not_true_eq_false, Bool.false_or, decide_false]
  rw [if_neg (by simp [zeros_size])]
  have e1 : (zeros z.cells (1 * n)) = ([] ++ (zeros z.cells (1 * n)).toList).toArray := by simp
  have e2 : cs.toArray.zipIdx = (cs.zipIdx 0).toArray := by simp
  rw [e1, e2, Nat.zero_mul, List.foldl_toArray']
  · rw [foldl_full cs [] _ 0 0 (by simp [zeros_size, hl]) rfl]
    simp
  · simp
end Ab
