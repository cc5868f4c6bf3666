import Derived.Test.YtjjocbijmhmdkaaAbF
import Derived.Laws.AppendOwn
namespace Ab
open Go
set_option autoImplicit false
set_option linter.unusedVariables false
set_option linter.unusedSimpArgs false

/-! ### Bytes and texts -/
/-- A byte as a cell. -/
def B (u : UInt8) : Value := .int .u8 u.toNat

def bytesOf : List Value → Option (List UInt8)
  | [] => some []
  | .int .u8 n :: l => (bytesOf l).map (UInt8.ofNat n.toNat :: ·)
  | _ => none

theorem bytesOf_map (l : List UInt8) : bytesOf (l.map B) = some l := by
  induction l with
  | nil => rfl
  | cons u l ih => simp [B, bytesOf] at ih ⊢; exact ih

theorem bytesOf_nums : ∀ {l : List Value} {bs : List UInt8}, bytesOf l = some bs → ∃ ns : List Int, l = ns.map (Value.int .u8) ∧ bs = ns.map fun n => UInt8.ofNat n.toNat
  | [], bs, h => by simp [bytesOf] at h; exact ⟨[], rfl, h⟩
  | v :: l, bs, h => by
    unfold bytesOf at h
    split at h
    · rename_i e; cases e
    · rename_i n l' e
      cases e
      simp only [Option.map_eq_some_iff] at h
      obtain ⟨bs', hb, rfl⟩ := h
      obtain ⟨ns, rfl, rfl⟩ := bytesOf_nums hb
      exact ⟨n :: ns, rfl, rfl⟩
    · cases h

/-- From bytes to a text. -/
def strR (P : Program) (h : AHeap) (src dst : TypeId) : Value → Option Value
  | .slice none _ _ => match P.underlying src, P.underlying dst with
    | some (.slice e), some .string => match P.underlying e with
      | some (.int .u8) => some (.string .empty)
      | _ => none
    | _, _ => none
  | .slice (some ⟨i, off, none⟩) len _ => match P.underlying src, P.underlying dst with
    | some (.slice e), some .string => match P.underlying e with
      | some (.int .u8) => match h.obj i with
        | some (.row c _ _ _ _) => if off + len ≤ c.length then (bytesOf ((c.drop off).take len)).map fun bs => .string ⟨bs.toArray⟩ else none
        | _ => none
      | _ => none
    | _, _ => none
  | _ => none

theorem VRels.nums {M : Mp} {ns : List Int} {cs : Array Value} (h : VRels M (ns.map (Value.int .u8)).toArray cs) : cs = (ns.map (Value.int .u8)).toArray := by
  apply Array.ext
  · exact h.1.symm
  · intro j h1 h2
    have := h.2 j h2 h1
    generalize hq : cs[j] = q at this
    simp only [List.getElem_toArray, List.getElem_map] at this ⊢
    cases this; rfl

theorem strR_sound {P : Program} {M : Mp} {h : AHeap} {w : World} {src dst : TypeId} {x x' v : Value} (r : Rel M h w) (hx : VRel M x x') (hs : strR P h src dst x = some v) :
    (convert src dst x').run P w = .ok v w ∧ VRel M v v := by
  cases hx <;> simp only [strR, poison] at hs <;> first | (cases hs; done) | skip
  case nilSlice =>
    split at hs
    · rename_i e hd hd2
      split at hs
      · rename_i he
        obtain rfl := Option.some.inj hs
        exact ⟨run_convert_bytes_nil w src e hd he 0 0 dst hd2, .string _⟩
      · cases hs
    · cases hs
  case slice i off len cap cap' b hM _ _ =>
    split at hs
    · rename_i e hd hd2
      split at hs
      · rename_i he
        split at hs
        · rename_i c el sz ti ro ho
          split at hs
          · rename_i hoff
            simp only [Option.map_eq_some_iff] at hs
            obtain ⟨bs, hb, rfl⟩ := hs
            obtain ⟨ns, hns, rfl⟩ := bytesOf_nums hb
            obtain ⟨cs, hcs, hr⟩ := r.cells (P := P) ho hM hoff
            rw [hns] at hr
            rw [VRels.nums hr] at hcs
            refine ⟨?_, .string _⟩
            rw [run_convert_bytes_string w src dst e _ len cap' hd he hd2, run_bytesToString w _ len cap' ns hcs, foldl_push_bytes, show ByteArray.empty.data = #[] from rfl, Array.empty_append]
          · cases hs
        · cases hs
      · cases hs
    · cases hs
  case slice00 i off a b hM =>
    split at hs
    · rename_i e hd hd2
      split at hs
      · rename_i he
        have hv : v = .string .empty := by
          split at hs
          · split at hs
            · simp [bytesOf] at hs; rw [← hs]; rfl
            · cases hs
          · cases hs
        subst hv
        refine ⟨?_, .string _⟩
        rw [run_convert_bytes_string w src dst e _ 0 0 hd he hd2]
        simp [Conv.bytesToString, loadCells, loadCellsFrom]
      · cases hs
    · cases hs
  case slice0 i off off' cap' b hM _ =>
    split at hs
    · rename_i e hd hd2
      split at hs
      · rename_i he
        have hv : v = .string .empty := by
          split at hs
          · split at hs
            · simp [bytesOf] at hs; rw [← hs]; rfl
            · cases hs
          · cases hs
        subst hv
        refine ⟨?_, .string _⟩
        rw [run_convert_bytes_string w src dst e _ 0 cap' hd he hd2]
        simp [Conv.bytesToString, loadCells, loadCellsFrom]
      · cases hs
    · cases hs

/-- From a text to bytes: a new row, of which no more is known than the bytes. -/
def bytesA (P : Program) (id : Nat) (src dst : TypeId) : Value → Option (Value × AObj)
  | .string s => match P.underlying src, P.underlying dst with
    | some _, some (.slice e) => match P.underlying e with
      | some (.int .u8) => some (.slice (some ⟨id, 0, none⟩) s.size s.size, .row (s.data.toList.map B) e 1 false false)
      | _ => none
    | _, _ => none
  | _ => none

theorem bytesA_sound {P : Program} {M : Mp} {w : World} {id : Nat} {src dst : TypeId} {x x' u : Value} {o : AObj} (hx : VRel M x x') (hs : bytesA P id src dst x = some (u, o)) : AllocOk P M w id (convert src dst x') u o := by
  cases hx <;> simp only [bytesA, poison] at hs <;> first | (cases hs; done) | skip
  rename_i s
  split at hs
  · rename_i d e hd hd2
    split at hs
    · rename_i he
      simp only [Option.some.injEq, Prod.mk.injEq] at hs
      obtain ⟨rfl, rfl⟩ := hs
      have hrun := Lib.run_convert_string_bytes w src dst e s hd hd2 he
      let cc := Lib.bytesCells w e s
      have hg : s.size ≤ grownCap w s.size 0 e := by unfold grownCap Question.cut; exact Nat.le_add_right _ _
      have hcc : cc.size = grownCap w s.size 0 e := by
        show (Lib.bytesCells w e s).size = _
        unfold Lib.bytesCells
        simp only [Array.size_append, Array.size_map, Array.size_replicate]
        have : s.data.size = s.size := rfl
        omega
      let w1 : World := { Lib.bytesWorld w e s with heap := w.heap }
      have hheap : (Lib.bytesWorld w e s).heap = w.heap.push (.cells cc e (cc.size, cc.size + 1)) := by
        apply Array.ext_getElem?
        intro j
        by_cases hj : j < w.heap.size
        · rw [Lib.bytesWorld_at_old w e s j hj, Array.getElem?_push, if_neg (by omega)]
        · by_cases hj2 : j = w.heap.size
          · subst hj2; rw [Lib.bytesWorld_at_new]; simp [cc]
          · rw [Array.getElem?_eq_none (by rw [Lib.bytesWorld_size]; omega), Array.getElem?_eq_none (by simp; omega)]
      have hw2 : ({ w1 with heap := w.heap.push (.cells cc e (cc.size, cc.size + 1)) } : World) = Lib.bytesWorld w e s := by
        show ({ Lib.bytesWorld w e s with heap := w.heap.push (.cells cc e (cc.size, cc.size + 1)) } : World) = _
        rw [← hheap]
      refine ⟨_, w1, .cells cc e (cc.size, cc.size + 1), cc.size, 1, true, by rw [hw2]; exact hrun, rfl, rfl, rfl, rfl, fun M' hle hid => ⟨?_, ?_⟩⟩
      · refine .slice id 0 s.size s.size (grownCap w s.size 0 e) _ hid (Nat.le_refl _) ?_
        right
        refine ⟨rfl, hg, ?_⟩
        show 0 + grownCap w s.size 0 e * 1 ≤ cc.size
        rw [hcc]; omega
      · refine ⟨cc, cc.size, cc.size + 1, Array.getElem?_push_size, by simp, ?_, rfl, (fun h => by simp at h), (fun _ => .inr (Nat.le_refl _)), fun j v hj => ?_⟩
        · simp only [List.length_map, Array.length_toList]; rw [hcc]; exact hg
        · simp only [List.getElem?_map, Option.map_eq_some_iff] at hj
          obtain ⟨b, hb, rfl⟩ := hj
          refine ⟨B b, ?_, .int _ _⟩
          have hlt : j < s.data.size := by
            have := (List.getElem?_eq_some_iff.1 hb).1; simpa using this
          simp only [Nat.zero_add]
          show (Lib.bytesCells w e s)[j]? = _
          unfold Lib.bytesCells
          rw [Array.getElem?_append_left (by simpa using hlt)]
          simp only [Array.getElem?_map, Option.map_eq_some_iff]
          exact ⟨b, by simpa using hb, rfl⟩
    · cases hs
  · cases hs
end Ab
