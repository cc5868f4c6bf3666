import Derived.Test.YtjjocbijmhmdkaaAbX
import Derived.Below
namespace Ab
open Go Go.RowKit
set_option autoImplicit false
set_option linter.unusedVariables false
set_option linter.unusedSimpArgs false

/-! ### The world at a call, as an abstract heap -/
def M0 (w : World) : Mp := fun i => match w.heap[i]? with
  | some (.cells c _ _) => some ⟨i, 0, c.size, 1, false⟩
  | some _ => some ⟨i, 0, 0, 1, false⟩
  | none => none

open Classical in
/-- A cell of block k, as far as it is known. -/
noncomputable def san (w : World) (k : Nat) (v : Value) : Value := match v with
  | .slice (some _) 0 0 => if (M0 w k).isSome then .slice (some ⟨k, 0, none⟩) 0 0 else poison
  | v => if VRel (M0 w) v v then v else poison

theorem san_rel (w : World) (k : Nat) (v : Value) : VRel (M0 w) (san w k v) v := by
  unfold san
  split
  · split
    · rename_i h
      obtain ⟨b, hb⟩ := Option.isSome_iff_exists.1 h
      exact .slice00 k 0 _ b hb
    · exact .any _
  · split
    · assumption
    · exact .any _

theorem san_of {w : World} {k : Nat} {v : Value} (hv : ∀ a, v ≠ .slice (some a) 0 0) (h : VRel (M0 w) v v) : san w k v = v := by
  unfold san
  split
  · exact absurd rfl (hv _)
  · exact if_pos h

noncomputable def rows (w : World) : AHeap where
  obj := fun b => match w.heap[b]? with | some (.cells c e _) => some (.row (c.toList.map (san w b)) e 1 true true) | _ => none
  next := w.heap.size
  base := w.heap.size

theorem M0_some {w : World} {i : Nat} {b : Blk} (h : M0 w i = some b) : i < w.heap.size ∧ b.blk = i ∧ b.base = 0 ∧ b.opn = false := by
  unfold M0 at h
  split at h
  · rename_i c e f hc
    cases h
    exact ⟨(Array.getElem?_eq_some_iff.1 hc).1, rfl, rfl, rfl⟩
  · rename_i o hne hc
    cases h
    exact ⟨(Array.getElem?_eq_some_iff.1 hc).1, rfl, rfl, rfl⟩
  · cases h

theorem rows_rel (w : World) : Rel (M0 w) (rows w) w where
  live := fun i o b ho hM => by
    simp only [rows] at ho
    split at ho
    · rename_i c e f hc
      cases ho
      simp only [M0, hc] at hM
      cases hM
      refine ⟨c, f.1, f.2, hc, by simp, by simp, rfl, fun _ => rfl, (fun h => by cases h), fun j v hj => ?_⟩
      simp only [List.getElem?_map, Option.map_eq_some_iff] at hj
      obtain ⟨v', hv', rfl⟩ := hj
      exact ⟨v', by simpa using hv', san_rel w i v'⟩
    · cases ho
  inj := fun i j b b' _ _ h1 h2 e => by
    have := (M0_some h1).2.1
    have := (M0_some h2).2.1
    omega
  fresh := fun i hi => by
    cases h : M0 w i with
    | none => rfl
    | some b => have := (M0_some h).1; simp only [rows] at hi; omega
  glob := fun i hi => by
    have hi' : i < w.heap.size := hi
    cases h : M0 w i with
    | none =>
      unfold M0 at h
      rw [Array.getElem?_eq_getElem hi'] at h
      split at h <;> cases h
      rename_i hc; cases hc
    | some b => exact ⟨b, rfl, (M0_some h).2.1, (M0_some h).2.2.1⟩
  inb := fun i b h => by have := (M0_some h).1; have := (M0_some h).2.1; omega
  ble := Nat.le_refl _
  bnd := fun i hi => by
    have : w.heap[i]? = none := Array.getElem?_eq_none hi
    simp only [rows, this]
  oldro := fun i o _ ho => by
    simp only [rows] at ho
    split at ho
    · cases ho; exact ⟨_, _, _, _, rfl⟩
    · cases ho
  nb := fun i b hi h => by have := (M0_some h).1; simp only [rows] at hi; omega

/-- A contract on the abstract heap says what a call does in the world. -/
theorem ACalls.calls {P : Program} {f : FuncId} {W : World} {args cargs : Array Value} {Q : Value → AHeap → Prop} (k : ACalls P f args (rows W) Q) (hv : VRels (M0 W) args cargs) :
    Calls P f cargs W fun e W' => ∃ v vc M' h', e = .returned vc ∧ Q v h' ∧ VRel M' v vc ∧ Rel M' h' W' ∧ Below W.heap.size W W' := by
  refine (k (M0 W) W cargs (rows_rel W) hv).mono ?_
  rintro e W' ⟨v, vc, M', h', he, q, vr, r, p⟩
  exact ⟨v, vc, M', h', he, q, vr, r, p.os, p.tape, p.output, p.size, p.old⟩

theorem ACalls.calls_true {P : Program} {f : FuncId} {W : World} {args cargs : Array Value} (k : ACalls P f args (rows W) fun r _ => r = .bool true) (hv : VRels (M0 W) args cargs) :
    Calls P f cargs W fun e W' => e = .returned (.bool true) ∧ Below W.heap.size W W' := by
  refine (k.calls hv).mono ?_
  rintro e W' ⟨v, vc, M', h', rfl, rfl, vr, _, b⟩
  cases vr
  exact ⟨rfl, b⟩

theorem VRels.of_list {M : Mp} : ∀ {l l' : List Value}, l.length = l'.length → (∀ p ∈ l.zip l', VRel M p.1 p.2) → VRels M l.toArray l'.toArray
  | l, l', h, k => ⟨by simpa using h, fun j h1 h2 => by
      have h1' : j < l.length := by simpa using h1
      have h2' : j < l'.length := by simpa using h2
      have := k (l[j], l'[j]) (by rw [List.mem_iff_getElem?]; exact ⟨j, by simp [List.getElem?_zip_eq_some, h1', h2']⟩)
      simpa using this⟩

theorem VRels.cons {M : Mp} {v v' : Value} {l l' : List Value} (h : VRel M v v') (k : VRels M l.toArray l'.toArray) : VRels M (v :: l).toArray (v' :: l').toArray := by
  refine ⟨by have := k.1; simpa using this, fun j h1 h2 => ?_⟩
  cases j with
  | zero => simpa using h
  | succ j =>
    have := k.2 j (by simpa using h1) (by simpa using h2)
    simpa using this

/-- Numbers as bytes. -/
def bys (zs : List Int) : List UInt8 := zs.map fun z => UInt8.ofNat z.toNat

/-- A slice of bytes that came in. -/
theorem arg_bytes {W : World} {a : Option Addr} {len cap : Nat} {zs : List Int}
    (h : (a = none ∧ len = 0 ∧ cap = 0 ∧ zs = []) ∨ ∃ x, a = some x ∧ len ≤ cap ∧ cap ≤ maxLen ∧ zs.length = cap ∧ (∀ i, i < zs.length → W.cell? (x.add i) = some (.int .u8 (zs.getD i 0))) ∧ ∀ n ∈ zs, (Lit.int .u8 n).wf = true)
    (hs : ∀ x, a = some x → x.spot = none ∧ ∃ c e f, W.heap[x.block]? = some (.cells c e f)) :
    ∃ v, VRel (M0 W) v (.slice a len cap) ∧ Bytes (rows W) v (bys (zs.take len)) := by
  rcases h with ⟨rfl, rfl, rfl, rfl⟩ | ⟨x, rfl, h1, h2, h3, h4, h5⟩
  · exact ⟨_, .nilSlice, .inl ⟨rfl, by simp [bys]⟩⟩
  · obtain ⟨hsp, c, e, f, hc⟩ := hs x rfl
    obtain ⟨b, o, sp⟩ := x
    simp only at hsp hc
    subst hsp
    have hM : M0 W b = some ⟨b, 0, c.size, 1, false⟩ := by simp only [M0, hc]
    have hb : b < W.heap.size := (M0_some hM).1
    have ho : (rows W).obj b = some (.row (c.toList.map (san W b)) e 1 true true) := by simp only [rows, hc]
    have hbl : (bys (zs.take len)).length = len := by simp [bys]; omega
    by_cases hc0 : cap = 0
    · subst hc0
      obtain rfl : len = 0 := by omega
      refine ⟨.slice (some ⟨b, 0, none⟩) 0 0, ?_, .inr ⟨b, 0, 0, _, e, 1, true, true, by simp [bys], by simp [bys], hb, ho, .inl rfl, by simp [bys], by simp [bys]⟩⟩
      have := VRel.slice0 (M := M0 W) b 0 o 0 _ hM (.inl rfl)
      simpa using this
    · have hcell : ∀ i, i < cap → c[o + i]? = some (.int .u8 (zs.getD i 0)) := by
        intro i hi
        have := h4 i (by omega)
        by_cases hi0 : i = 0
        · subst hi0
          simpa [Addr.add, World.cell?, hc] using this
        · simpa [Addr.add, World.cell?, hc, hi0] using this
      have hlt : o + cap ≤ c.size := by
        have := hcell (cap - 1) (by omega)
        have := (Array.getElem?_eq_some_iff.1 this).1
        omega
      refine ⟨.slice (some ⟨b, o, none⟩) len cap, ?_, .inr ⟨b, o, cap, _, e, 1, true, true, by rw [hbl], by omega, hb, ho, .inl rfl, by simp [hbl]; omega, ?_⟩⟩
      · have := VRel.slice (M := M0 W) b o len cap cap _ hM h1 (.inl rfl)
        simpa using this
      · rw [hbl]
        apply List.ext_getElem?
        intro j
        rw [List.getElem?_take]
        split
        · rename_i hj
          have hj2 : j < zs.length := by omega
          rw [List.getElem?_drop, List.getElem?_map, Array.getElem?_toList, hcell j (by omega)]
          simp only [bys, List.map_map, List.getElem?_map, List.getElem?_take, if_pos hj, Option.map_some]
          rw [List.getElem?_eq_getElem hj2]
          simp only [Option.map_some, Function.comp]
          have hw := h5 _ (List.getElem_mem hj2)
          simp only [Lit.wf, IntKind.min, IntKind.max, IntKind.signed, IntKind.bits, Bool.and_eq_true, decide_eq_true_eq] at hw
          rw [san_of (fun _ h => by cases h) (.int _ _)]
          have e1 : zs.getD j 0 = zs[j] := by simp [List.getD_eq_getElem?_getD, hj2]
          rw [e1]
          simp only [B, UInt8.toNat_ofNat']
          congr 2
          simp at hw
          omega
        · rw [List.getElem?_eq_none]
          simp [hbl]; omega

theorem okWide_has {P : Program} {W : World} {base : Nat} {t e : TypeId} {a : Option Addr} {len cap : Nat} (ht : P.underlying t = some (.slice e)) (h : Value.okWide P W .any base t (.slice a len cap)) :
    ∀ x, a = some x → x.spot = none ∧ ∃ c e f, W.heap[x.block]? = some (.cells c e f) := by
  rintro x rfl
  simp only [Value.okWide, ht, Cell.okWide, Cell.ok, World.has] at h
  obtain ⟨_, _, _, hs, row, cells, hsh, _⟩ := h
  refine ⟨hs, ?_⟩
  unfold World.shape? at hsh
  split at hsh
  · rename_i c e f hc; exact ⟨c, e, f, hc⟩
  · cases hsh
end Ab
