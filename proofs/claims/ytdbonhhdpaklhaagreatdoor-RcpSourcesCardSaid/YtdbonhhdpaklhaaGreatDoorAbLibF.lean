import Derived.Test.YtdbonhhdpaklhaaGreatDoorAbLibC
import Derived.Below
import Derived.Test.YtdbonhhdpaklhaaGreatDoorAbLibD
import Derived.ChangeSlices
import Derived.ChangeArms
import Derived.Test.YtdbonhhdpaklhaaGreatDoorAbLibE
import Derived.WideShapes
import Derived.OpenShut
import Derived.Lib.LaidU8
import Derived.MakeChecks
section
namespace Ab
open Go Go.RowKit
set_option autoImplicit false
set_option linter.unusedVariables false
set_option linter.unusedSimpArgs false

/-! ### The world at a call, as an abstract heap -/
def M0 (w : World) : Mp := fun i => match w.heap[i]? with
  | some (.cells c _ _) => some ⟨i, 0, c.size, 1, false⟩
  | some _ => some ⟨i, 0, 0, 1, false⟩
  | none => none

open Classical in
/-- A cell of block k, as far as it is known. -/
noncomputable def san (w : World) (k : Nat) (v : Value) : Value := match v with
  | .slice (some _) 0 0 => if (M0 w k).isSome then .slice (some ⟨k, 0, none⟩) 0 0 else poison
  | v => if VRel (M0 w) v v then v else poison

theorem san_rel (w : World) (k : Nat) (v : Value) : VRel (M0 w) (san w k v) v := by
  unfold san
  split
  · split
    · rename_i h
      obtain ⟨b, hb⟩ := Option.isSome_iff_exists.1 h
      exact .slice00 k 0 _ b hb
    · exact .any _
  · split
    · assumption
    · exact .any _

theorem san_of {w : World} {k : Nat} {v : Value} (hv : ∀ a, v ≠ .slice (some a) 0 0) (h : VRel (M0 w) v v) : san w k v = v := by
  unfold san
  split
  · exact absurd rfl (hv _)
  · exact if_pos h

noncomputable def rows (w : World) : AHeap where
  obj := fun b => match w.heap[b]? with | some (.cells c e _) => some (.row (c.toList.map (san w b)) e 1 true true) | _ => none
  next := w.heap.size
  base := w.heap.size

theorem M0_some {w : World} {i : Nat} {b : Blk} (h : M0 w i = some b) : i < w.heap.size ∧ b.blk = i ∧ b.base = 0 ∧ b.opn = false := by
  unfold M0 at h
  split at h
  · rename_i c e f hc
    cases h
    exact ⟨(Array.getElem?_eq_some_iff.1 hc).1, rfl, rfl, rfl⟩
  · rename_i o hne hc
    cases h
    exact ⟨(Array.getElem?_eq_some_iff.1 hc).1, rfl, rfl, rfl⟩
  · cases h

theorem rows_rel (w : World) : Rel (M0 w) (rows w) w where
  live := fun i o b ho hM => by
    simp only [rows] at ho
    split at ho
    · rename_i c e f hc
      cases ho
      simp only [M0, hc] at hM
      cases hM
      refine ⟨c, f.1, f.2, hc, by simp, by simp, rfl, fun _ => rfl, (fun h => by cases h), fun j v hj => ?_⟩
      simp only [List.getElem?_map, Option.map_eq_some_iff] at hj
      obtain ⟨v', hv', rfl⟩ := hj
      exact ⟨v', by simpa using hv', san_rel w i v'⟩
    · cases ho
  inj := fun i j b b' _ _ h1 h2 e => by
    have := (M0_some h1).2.1
    have := (M0_some h2).2.1
    omega
  fresh := fun i hi => by
    cases h : M0 w i with
    | none => rfl
    | some b => have := (M0_some h).1; simp only [rows] at hi; omega
  glob := fun i hi => by
    have hi' : i < w.heap.size := hi
    cases h : M0 w i with
    | none =>
      unfold M0 at h
      rw [Array.getElem?_eq_getElem hi'] at h
      split at h <;> cases h
      rename_i hc; cases hc
    | some b => exact ⟨b, rfl, (M0_some h).2.1, (M0_some h).2.2.1⟩
  inb := fun i b h => by have := (M0_some h).1; have := (M0_some h).2.1; omega
  ble := Nat.le_refl _
  bnd := fun i hi => by
    have : w.heap[i]? = none := Array.getElem?_eq_none hi
    simp only [rows, this]
  oldro := fun i o _ ho => by
    simp only [rows] at ho
    split at ho
    · cases ho; exact ⟨_, _, _, _, rfl⟩
    · cases ho
  nb := fun i b hi h => by have := (M0_some h).1; simp only [rows] at hi; omega
  b0 := fun i b h _ => (M0_some h).2.2.1

/-- A contract on the abstract heap says what a call does in the world. -/
theorem ACalls.calls {P : Program} {f : FuncId} {W : World} {args cargs : Array Value} {Q : Value → AHeap → Prop} (k : ACalls P f args (rows W) Q) (hv : VRels (M0 W) args cargs) :
    Calls P f cargs W fun e W' => ∃ v vc M' h', e = .returned vc ∧ Q v h' ∧ VRel M' v vc ∧ Rel M' h' W' ∧ Below W.heap.size W W' := by
  refine (k (M0 W) W cargs (rows_rel W) hv).mono ?_
  rintro e W' ⟨v, vc, M', h', he, q, vr, r, p⟩
  exact ⟨v, vc, M', h', he, q, vr, r, p.os, p.tape, p.output, p.size, p.old⟩

theorem ACalls.calls_true {P : Program} {f : FuncId} {W : World} {args cargs : Array Value} (k : ACalls P f args (rows W) fun r _ => r = .bool true) (hv : VRels (M0 W) args cargs) :
    Calls P f cargs W fun e W' => e = .returned (.bool true) ∧ Below W.heap.size W W' := by
  refine (k.calls hv).mono ?_
  rintro e W' ⟨v, vc, M', h', rfl, rfl, vr, _, b⟩
  cases vr
  exact ⟨rfl, b⟩

theorem VRels.of_list {M : Mp} : ∀ {l l' : List Value}, l.length = l'.length → (∀ p ∈ l.zip l', VRel M p.1 p.2) → VRels M l.toArray l'.toArray
  | l, l', h, k => ⟨by simpa using h, fun j h1 h2 => by
      have h1' : j < l.length := by simpa using h1
      have h2' : j < l'.length := by simpa using h2
      have := k (l[j], l'[j]) (by rw [List.mem_iff_getElem?]; exact ⟨j, by simp [List.getElem?_zip_eq_some, h1', h2']⟩)
      simpa using this⟩

theorem VRels.cons {M : Mp} {v v' : Value} {l l' : List Value} (h : VRel M v v') (k : VRels M l.toArray l'.toArray) : VRels M (v :: l).toArray (v' :: l').toArray := by
  refine ⟨by have := k.1; simpa using this, fun j h1 h2 => ?_⟩
  cases j with
  | zero => simpa using h
  | succ j =>
    have := k.2 j (by simpa using h1) (by simpa using h2)
    simpa using this

/-- Numbers as bytes. -/
def bys (zs : List Int) : List UInt8 := zs.map fun z => UInt8.ofNat z.toNat

/-- A slice of bytes that came in. -/
theorem arg_bytes {W : World} {a : Option Addr} {len cap : Nat} {zs : List Int}
    (h : (a = none ∧ len = 0 ∧ cap = 0 ∧ zs = []) ∨ ∃ x, a = some x ∧ len ≤ cap ∧ cap ≤ maxLen ∧ zs.length = cap ∧ (∀ i, i < zs.length → W.cell? (x.add i) = some (.int .u8 (zs.getD i 0))) ∧ ∀ n ∈ zs, (Lit.int .u8 n).wf = true)
    (hs : ∀ x, a = some x → x.spot = none ∧ ∃ c e f, W.heap[x.block]? = some (.cells c e f)) :
    ∃ v, VRel (M0 W) v (.slice a len cap) ∧ Bytes (rows W) v (bys (zs.take len)) := by
  rcases h with ⟨rfl, rfl, rfl, rfl⟩ | ⟨x, rfl, h1, h2, h3, h4, h5⟩
  · exact ⟨_, .nilSlice, .inl ⟨rfl, by simp [bys]⟩⟩
  · obtain ⟨hsp, c, e, f, hc⟩ := hs x rfl
    obtain ⟨b, o, sp⟩ := x
    simp only at hsp hc
    subst hsp
    have hM : M0 W b = some ⟨b, 0, c.size, 1, false⟩ := by simp only [M0, hc]
    have hb : b < W.heap.size := (M0_some hM).1
    have ho : (rows W).obj b = some (.row (c.toList.map (san W b)) e 1 true true) := by simp only [rows, hc]
    have hbl : (bys (zs.take len)).length = len := by simp [bys]; omega
    by_cases hc0 : cap = 0
    · subst hc0
      obtain rfl : len = 0 := by omega
      refine ⟨.slice (some ⟨b, 0, none⟩) 0 0, ?_, .inr ⟨b, 0, 0, _, e, 1, true, true, by simp [bys], by simp [bys], hb, ho, .inl rfl, by simp [bys], by simp [bys]⟩⟩
      have := VRel.slice0 (M := M0 W) b 0 o 0 _ hM (.inl rfl)
      simpa using this
    · have hcell : ∀ i, i < cap → c[o + i]? = some (.int .u8 (zs.getD i 0)) := by
        intro i hi
        have := h4 i (by omega)
        by_cases hi0 : i = 0
        · subst hi0
          simpa [Addr.add, World.cell?, hc] using this
        · simpa [Addr.add, World.cell?, hc, hi0] using this
      have hlt : o + cap ≤ c.size := by
        have := hcell (cap - 1) (by omega)
        have := (Array.getElem?_eq_some_iff.1 this).1
        omega
      refine ⟨.slice (some ⟨b, o, none⟩) len cap, ?_, .inr ⟨b, o, cap, _, e, 1, true, true, by rw [hbl], by omega, hb, ho, .inl rfl, by simp [hbl]; omega, ?_⟩⟩
      · have := VRel.slice (M := M0 W) b o len cap cap _ hM h1 (.inl rfl)
        simpa using this
      · rw [hbl]
        apply List.ext_getElem?
        intro j
        rw [List.getElem?_take]
        split
        · rename_i hj
          have hj2 : j < zs.length := by omega
          rw [List.getElem?_drop, List.getElem?_map, Array.getElem?_toList, hcell j (by omega)]
          simp only [bys, List.map_map, List.getElem?_map, List.getElem?_take, if_pos hj, Option.map_some]
          rw [List.getElem?_eq_getElem hj2]
          simp only [Option.map_some, Function.comp]
          have hw := h5 _ (List.getElem_mem hj2)
          simp only [Lit.wf, IntKind.min, IntKind.max, IntKind.signed, IntKind.bits, Bool.and_eq_true, decide_eq_true_eq] at hw
          rw [san_of (fun _ h => by cases h) (.int _ _)]
          have e1 : zs.getD j 0 = zs[j] := by simp [List.getD_eq_getElem?_getD, hj2]
          rw [e1]
          simp only [B, UInt8.toNat_ofNat']
          congr 2
          simp at hw
          omega
        · rw [List.getElem?_eq_none]
          simp [hbl]; omega

theorem okWide_has {P : Program} {W : World} {base : Nat} {t e : TypeId} {a : Option Addr} {len cap : Nat} (ht : P.underlying t = some (.slice e)) (h : Value.okWide P W .any base t (.slice a len cap)) :
    ∀ x, a = some x → x.spot = none ∧ ∃ c e f, W.heap[x.block]? = some (.cells c e f) := by
  rintro x rfl
  simp only [Value.okWide, ht, Cell.okWide, Cell.ok, World.has] at h
  obtain ⟨_, _, _, hs, row, cells, hsh, _⟩ := h
  refine ⟨hs, ?_⟩
  unfold World.shape? at hsh
  split at hsh
  · rename_i c e f hc; exact ⟨c, e, f, hc⟩
  · cases hsh
end Ab
end

section
namespace Ab
open Go Go.RowKit Go.ChangeShapes
set_option autoImplicit false
set_option linter.unusedVariables false
set_option linter.unusedSimpArgs false

/-! ### Lists of bytes that come in -/
theorem cell_has {W : World} {x : Addr} {v : Value} (h : W.cell? x = some v) : x.spot = none ∧ ∃ c e f, W.heap[x.block]? = some (.cells c e f) ∧ c[x.off]? = some v := by
  unfold World.cell? at h
  split at h
  · rename_i c e f hc
    split at h
    · cases h
    · rename_i hs
      exact ⟨by cases hx : x.spot <;> simp_all, c, e, f, hc, h⟩
  · cases h

theorem slice_self {W : World} {x : Addr} {len cap : Nat} (hs : x.spot = none) {c : Array Value} {e : TypeId} {f : Nat × Nat} (hc : W.heap[x.block]? = some (.cells c e f)) (hl : len ≤ cap) : VRel (M0 W) (.slice (some x) len cap) (.slice (some x) len cap) := by
  obtain ⟨b, o, sp⟩ := x
  simp only at hs hc
  subst hs
  have hM : M0 W b = some ⟨b, 0, c.size, 1, false⟩ := by simp only [M0, hc]
  have := VRel.slice (M := M0 W) b o len cap cap _ hM hl (.inl rfl)
  simpa using this

/-- The cells of a row that came in. -/
theorem row_cells {W : World} {x : Addr} {len cap : Nat} (hs : x.spot = none) {c : Array Value} {e : TypeId} {f : Nat × Nat} (hc : W.heap[x.block]? = some (.cells c e f)) (hl : len ≤ cap) (hlt : x.off + cap ≤ c.size) (cs : List Value) (hn : cs.length = len)
    (hcs : ∀ j (h : j < cs.length), ∃ v, W.cell? (x.add j) = some v ∧ cs[j] = san W x.block v) : Sl 1 (rows W) (.slice (some x) len cap) len cs := by
  obtain ⟨b, o, sp⟩ := x
  simp only at hs hc hlt hcs
  subst hs
  have hM : M0 W b = some ⟨b, 0, c.size, 1, false⟩ := by simp only [M0, hc]
  have ho : (rows W).obj b = some (.row (c.toList.map (san W b)) e 1 true true) := by simp only [rows, hc]
  refine .inr ⟨b, o, cap, _, e, 1, true, true, rfl, hl, (M0_some hM).1, ho, .inl rfl, by simp; omega, ?_⟩
  subst hn
  apply List.ext_getElem?
  intro j
  rw [Nat.mul_one, List.getElem?_take]
  split
  · rename_i hj
    obtain ⟨v, hv, e1⟩ := hcs j hj
    rw [List.getElem?_drop, List.getElem?_map, Array.getElem?_toList, List.getElem?_eq_getElem hj, e1]
    have hcell : c[o + j]? = some v := by
      by_cases hj0 : j = 0
      · subst hj0
        simpa [Addr.add, World.cell?, hc] using hv
      · simpa [Addr.add, World.cell?, hc, hj0] using hv
    rw [hcell]; rfl
  · rw [List.getElem?_eq_none (by omega)]

theorem off_lt {W : World} {x : Addr} {cap : Nat} {v : Value} {c : Array Value} {e : TypeId} {f : Nat × Nat} (hc : W.heap[x.block]? = some (.cells c e f)) (h0 : 0 < cap) (h : W.cell? (x.add (cap - 1)) = some v) : x.off + cap ≤ c.size := by
  obtain ⟨b, o, sp⟩ := x
  simp only at hc ⊢
  have : c[o + (cap - 1)]? = some v := by
    by_cases hj0 : cap - 1 = 0
    · rw [hj0] at h ⊢
      simp only [Addr.add, World.cell?, hc, if_true] at h
      split at h
      · cases h
      · simpa using h
    · simp only [Addr.add, World.cell?, hc, if_neg hj0] at h
      split at h
      · cases h
      · exact h
  have := (Array.getElem?_eq_some_iff.1 this).1
  omega

theorem add_zero (x : Addr) : x.add 0 = x := by simp [Addr.add]

section
variable {P : Program} {W : World} {H : Type} {enc : TypeId × Value → H} {base fuel k : Nat} {held : Bool} {t e : TypeId} {v : Value} {x : DataW H × List MemPlace}

/-- Bytes in a cell of block k. -/
theorem san_bytes (ht : P.underlying t = some (.slice e)) (he : P.underlying e = some (.int .u8)) (hc : P.cellsOf e = 1) (hk : ∃ c e f, W.heap[k]? = some (.cells c e f))
    (h : DataW.trod enc P W base (fun _ => true) held fuel t [v] = some x) : ∃ a cap bs, san W k v = .slice a (List.length bs) cap ∧ Bytes (rows W) (.slice a bs.length cap) bs := by
  rcases open_ints ht he hc h with ⟨hcs, _⟩ | ⟨a, len, cap, zs, hcs, hb, hl, hm, hz, _, hcell, hwz⟩
  · simp at hcs
    subst hcs
    exact ⟨none, 0, [], san_of (fun _ h => by cases h) .nilSlice, Bytes.nil _⟩
  · simp at hcs
    subst hcs
    simp only [if_true] at hz
    by_cases h0 : cap = 0
    · subst h0
      obtain rfl : len = 0 := by omega
      obtain ⟨c, e', f, hkc⟩ := hk
      have hM : M0 W k = some ⟨k, 0, c.size, 1, false⟩ := by simp only [M0, hkc]
      refine ⟨some ⟨k, 0, none⟩, 0, [], by simp [san, hM], .inr ⟨k, 0, 0, c.toList.map (san W k), e', 1, true, true, rfl, by simp, (M0_some hM).1, by simp only [rows, hkc], .inl rfl, by simp, by simp⟩⟩
    · have hc0 := hcell 0 (by omega)
      rw [add_zero] at hc0
      obtain ⟨hs, c, e', f, hbc, _⟩ := cell_has hc0
      have hv := slice_self (len := len) (cap := cap) hs hbc hl
      refine ⟨some a, cap, bys (zs.take len), ?_, ?_⟩
      · rw [san_of (fun y hy => by cases hy; exact h0 rfl) hv]
        congr 1
        simp [bys]; omega
      · have hlen : (bys (zs.take len)).length = len := by simp [bys]; omega
        have sl : Sl 1 (rows W) (.slice (some a) len cap) len ((bys (zs.take len)).map B) := by
          refine row_cells hs hbc hl (off_lt hbc (by omega) (hcell (cap - 1) (by omega))) _ (by simp [hlen]) fun j hj => ?_
          simp only [List.length_map, hlen] at hj
          refine ⟨_, hcell j (by omega), ?_⟩
          have hj2 : j < zs.length := by omega
          have hw := hwz _ (List.getElem_mem hj2)
          simp only [Lit.wf, IntKind.min, IntKind.max, IntKind.signed, IntKind.bits, Bool.and_eq_true, decide_eq_true_eq] at hw
          rw [san_of (fun _ h => by cases h) (.int _ _)]
          have e1 : zs.getD j 0 = zs[j] := by simp [List.getD_eq_getElem?_getD, hj2]
          rw [e1]
          simp only [bys, List.map_map, List.getElem_map, List.getElem_take, Function.comp, B, UInt8.toNat_ofNat']
          congr 1
          simp at hw
          omega
        rcases sl with ⟨e1, _⟩ | ⟨i, off, cap', c', e'', sz', ti, ro, e1, h1, h2, h3, h4, h5, h6⟩
        · cases e1
        · rw [hlen]
          exact .inr ⟨i, off, cap', c', e'', sz', ti, ro, by rw [hlen]; exact e1, by rw [hlen]; exact h1, h2, h3, h4, by rw [hlen]; simpa using h5, by rw [hlen]; simpa using h6⟩

theorem cells_one {n : Nat} {a : Addr} {vs : List Value} (hn : n = 1) (h : W.cells? base a n = some vs) : ∃ v, vs = [v] ∧ W.cell? a = some v := by
  subst hn
  unfold World.cells? at h
  split at h
  · simp only [List.range_succ, List.range_zero, List.nil_append, List.mapM_cons, List.mapM_nil, add_zero, Option.pure_def, Option.bind_eq_bind, Option.bind_eq_some_iff, Option.some.injEq] at h
    obtain ⟨v, hv, _, rfl, rfl⟩ := h
    exact ⟨v, rfl, hv⟩
  · cases h

/-- A slice of slices of bytes that came in. -/
theorem arg_pcs {u : TypeId} {a : Option Addr} {len cap : Nat} (ht : P.underlying t = some (.slice e)) (he : P.underlying e = some (.slice u)) (hu : P.underlying u = some (.int .u8)) (hce : P.cellsOf e = 1) (hcu : P.cellsOf u = 1)
    (hs : ∀ x, a = some x → x.spot = none ∧ ∃ c e f, W.heap[x.block]? = some (.cells c e f)) (h : DataW.trod enc P W base (fun _ => true) held fuel t [.slice a len cap] = some x) :
    ∃ v, VRel (M0 W) v (.slice a len cap) ∧ ∃ ps, ps.length ≤ 9223372036854775807 ∧ Pcs (rows W) v ps := by
  have mx : maxLen = 9223372036854775807 := by decide
  rcases DataW.trod_slice ht h with ⟨hcs, _⟩ | ⟨b, len', cap', elems, rest, n, _, hcs, rfl, hb, hl, hm, hlen, hel, hsp, _⟩
  · simp at hcs
    obtain ⟨rfl, rfl, rfl⟩ := hcs
    exact ⟨_, .nilSlice, [], by simp, [], .inl ⟨rfl, rfl, rfl⟩, fun j hj => by simp at hj⟩
  · simp at hcs
    obtain ⟨rfl, rfl, rfl⟩ := hcs
    obtain ⟨hspot, c, e', f, hbc⟩ := hs b rfl
    by_cases h0 : cap = 0
    · subst h0
      obtain rfl : len = 0 := by omega
      obtain ⟨bb, o, sp⟩ := b
      simp only at hspot hbc
      subst hspot
      have hM : M0 W bb = some ⟨bb, 0, c.size, 1, false⟩ := by simp only [M0, hbc]
      refine ⟨.slice (some ⟨bb, 0, none⟩) 0 0, ?_, [], by simp, [], .inr ⟨bb, 0, 0, c.toList.map (san W bb), e', 1, true, true, rfl, by simp, (M0_some hM).1, by simp only [rows, hbc], .inl rfl, by simp, by simp⟩, fun j hj => by simp at hj⟩
      have := VRel.slice0 (M := M0 W) bb 0 o 0 _ hM (.inl rfl)
      simpa using this
    · have hall : ∀ j, j < cap → ∃ v y, W.cell? (b.add j) = some v ∧ DataW.trod enc P W base (fun _ => true) held n e [v] = some y := by
        intro j hj
        have hx : ∃ y, (W.cells? base (b.add (j * P.cellsOf e)) (P.cellsOf e)).bind (DataW.trod enc P W base (fun _ => true) held n e) = some y := by
          by_cases hj2 : j < len
          · exact ⟨_, (hel j hj2).trans (List.getElem?_eq_getElem (by omega))⟩
          · obtain ⟨r1, r2⟩ := hsp rfl
            have := r2 (j - len) (by omega)
            rw [show len + (j - len) = j by omega] at this
            exact ⟨_, this.trans (List.getElem?_eq_getElem (by omega))⟩
        obtain ⟨y, hy⟩ := hx
        rw [hce, Nat.mul_one, Option.bind_eq_some_iff] at hy
        obtain ⟨vs, hvs, hty⟩ := hy
        obtain ⟨v, rfl, hv⟩ := cells_one rfl hvs
        exact ⟨v, y, hv, hty⟩
      have hex : ∀ j : Fin len, ∃ q : Value × List UInt8, ∃ v, W.cell? (b.add j) = some v ∧ san W b.block v = q.1 ∧ ∃ a cap, q.1 = .slice a q.2.length cap ∧ Bytes (rows W) q.1 q.2 := by
        intro j
        obtain ⟨v, y, hv, hy⟩ := hall j.1 (by have := j.2; omega)
        obtain ⟨aa, cc, bs, e1, e2⟩ := san_bytes he hu hcu ⟨c, e', f, hbc⟩ hy
        exact ⟨(san W b.block v, bs), v, hv, rfl, aa, cc, e1, by rw [e1]; exact e2⟩
      have hch : ∃ g : Fin len → Value × List UInt8, ∀ j : Fin len, ∃ v, W.cell? (b.add j) = some v ∧ san W b.block v = (g j).1 ∧ ∃ a cap, (g j).1 = .slice a (g j).2.length cap ∧ Bytes (rows W) (g j).1 (g j).2 :=
        ⟨fun j => Classical.choose (hex j), fun j => Classical.choose_spec (hex j)⟩
      obtain ⟨g, hg⟩ := hch
      obtain ⟨vl, _, hvl, _⟩ := hall (cap - 1) (by omega)
      refine ⟨_, slice_self hspot hbc hl, List.ofFn fun j => (g j).2, by simp; omega, List.ofFn fun j => (g j).1, ?_, fun j hj => ?_⟩
      · have := row_cells hspot hbc hl (off_lt hbc (by omega) hvl) (List.ofFn fun j => (g j).1) (by simp) (fun j hj => by
          obtain ⟨v, h1, h2, _⟩ := hg ⟨j, by simpa using hj⟩
          exact ⟨v, h1, by simp [h2]⟩)
        simpa using this
      · obtain ⟨v, h1, h2, aa, cc, e1, e2⟩ := hg ⟨j, by simpa using hj⟩
        refine ⟨aa, cc, ?_, ?_⟩
        · rw [List.getElem?_eq_getElem (by simpa using hj)]
          simp only [List.getElem_ofFn]
          rw [e1]
        · simp only [List.getElem_ofFn]
          rw [← e1]; exact e2
end
end Ab
end

section
namespace Ab
open Go Go.RowKit Go.ChangeShapes Go.WideShapes
set_option autoImplicit false
set_option linter.unusedVariables false
set_option linter.unusedSimpArgs false

/-! ### Records that come in: a number and bytes -/
theorem rec_has {P : Program} {W : World} {base : Nat} {t e0 e1 u : TypeId} {fs : Array Field} {cs : Array Value} (ht : P.underlying t = some (.struct fs)) (hts : P.cellTypes P.depth t = some [e0, e1]) (h1 : P.underlying e1 = some (.slice u))
    (h : Value.okWide P W .any base t (.agg cs)) {a : Option Addr} {len cap : Nat} (hc : cs[1]? = some (.slice a len cap)) : ∀ x, a = some x → x.spot = none ∧ ∃ c e f, W.heap[x.block]? = some (.cells c e f) := by
  simp only [Value.okWide, ht] at h
  obtain ⟨cs', e', _, ts, hts', _, hr⟩ := h
  cases e'
  rw [hts] at hts'
  cases hts'
  obtain ⟨u', hu, ok⟩ := hr 1 _ hc
  simp at hu
  subst hu
  exact okWide_has (t := e1) (e := u) (base := base) h1 (by simp only [Value.okWide, h1]; exact ok)

section
variable {P : Program} {W : World} {H : Type} {enc : TypeId × Value → H} {base base' fuel : Nat} {held : Bool} {t u : TypeId} {v : Value} {x : DataW H × List MemPlace} {f0 f1 : Field} {kd : IntKind}

/-- A slice of bytes that came in, by its type. -/
theorem arg_bytes' {e : TypeId} {a : Option Addr} {len cap : Nat} (ht : P.underlying t = some (.slice e)) (he : P.underlying e = some (.int .u8)) (hc : P.cellsOf e = 1)
    (hs : ∀ x, a = some x → x.spot = none ∧ ∃ c e f, W.heap[x.block]? = some (.cells c e f)) (h : DataW.trod enc P W base (fun _ => true) held fuel t [.slice a len cap] = some x) :
    ∃ a' cap' bs, VRel (M0 W) (.slice a' (List.length bs) cap') (.slice a len cap) ∧ Bytes (rows W) (.slice a' bs.length cap') bs := by
  have key : ∃ v, VRel (M0 W) v (.slice a len cap) ∧ ∃ bs, Bytes (rows W) v bs := by
    rcases open_ints ht he hc h with ⟨hcs, _⟩ | ⟨x, l, c, zs, hcs, _, hl, hm, hz, _, hcell, hwz⟩
    · simp at hcs
      obtain ⟨rfl, rfl, rfl⟩ := hcs
      obtain ⟨v, k, b⟩ := arg_bytes (W := W) (.inl ⟨rfl, rfl, rfl, rfl⟩) hs
      exact ⟨v, k, _, b⟩
    · simp at hcs
      obtain ⟨rfl, rfl, rfl⟩ := hcs
      obtain ⟨v, k, b⟩ := arg_bytes (W := W) (.inr ⟨_, rfl, hl, hm, by simpa using hz, hcell, hwz⟩) hs
      exact ⟨v, k, _, b⟩
  obtain ⟨v, k, bs, b⟩ := key
  obtain ⟨a', cap', rfl⟩ := b.val
  exact ⟨a', cap', bs, k, b⟩

theorem arg_rec {e0 e1 : TypeId} (ht : P.underlying t = some (.struct #[f0, f1])) (o0 : f0.offset = 0) (o1 : f1.offset = 1) (t0 : f0.type = e0) (t1 : f1.type = e1) (c0 : P.cellsOf e0 = 1) (c1 : P.cellsOf e1 = 1) (hts : P.cellTypes P.depth t = some [e0, e1]) (ct : P.cellsOf t = 2)
    (h0 : P.underlying e0 = some (.int kd)) (h1 : P.underlying e1 = some (.slice u)) (hu : P.underlying u = some (.int .u8)) (hcu : P.cellsOf u = 1)
    (hv : Value.okWide P W .any base' t v) (h : DataW.trod enc P W base (fun _ => true) held fuel t v.cells.toList = some x) :
    ∃ c a cap bs, (Lit.int kd c).wf = true ∧ VRel (M0 W) (.agg #[.int kd c, .slice a (List.length bs) cap]) v ∧ Bytes (rows W) (.slice a bs.length cap) bs := by
  obtain ⟨cs, rfl, hcs⟩ := okWide_struct ht hv
  subst t0 t1
  obtain ⟨y0, y1, n, rfl, hl, k0, k1⟩ := trod_struct2 ht h
  rw [o0, c0] at k0
  rw [o1, c1] at k1
  obtain ⟨l⟩ := cs
  simp only [Value.cells] at hl k0 k1
  rw [ct] at hl
  match l, hl with
  | [x0, x1], _ =>
    simp at k0 k1
    obtain ⟨c, rfl, hw⟩ : ∃ c, x0 = .int kd c ∧ (Lit.int kd c).wf = true := by
      cases n with
      | zero => simp [DataW.trod] at k0
      | succ n =>
        unfold DataW.trod at k0
        rw [h0] at k0
        cases x0 <;> simp at k0
        obtain ⟨⟨rfl, hw⟩, _⟩ := k0
        exact ⟨_, rfl, hw⟩
    have hsl : ∃ a len cap, x1 = .slice a len cap := by
      rcases open_ints h1 hu hcu k1 with ⟨hcs, _⟩ | ⟨x, l, c, zs, hcs, _⟩ <;> simp at hcs <;> exact ⟨_, _, _, hcs⟩
    obtain ⟨a, len, cap, rfl⟩ := hsl
    obtain ⟨a', cap', bs, k, b⟩ := arg_bytes' (enc := enc) h1 hu hcu (rec_has ht hts h1 hv (by rfl)) k1
    exact ⟨c, a', cap', bs, hw, VRels.agg (VRels.cons (.int _ _) (VRels.cons k VRels.nil)), b⟩

/-- A slice of numbers that came in. -/
theorem arg_ints {e : TypeId} {a : Option Addr} {len cap : Nat} (ht : P.underlying t = some (.slice e)) (he : P.underlying e = some (.int kd)) (hc : P.cellsOf e = 1)
    (hs : ∀ x, a = some x → x.spot = none ∧ ∃ c e f, W.heap[x.block]? = some (.cells c e f)) (h : DataW.trod enc P W base (fun _ => true) held fuel t [.slice a len cap] = some x) :
    ∃ v, VRel (M0 W) v (.slice a len cap) ∧ ∃ zs : List Int, zs.length ≤ 9223372036854775807 ∧ (∀ n ∈ zs, (Lit.int kd n).wf = true) ∧ Sl 1 (rows W) v zs.length (zs.map (.int kd)) := by
  have mx : maxLen = 9223372036854775807 := by decide
  rcases open_ints ht he hc h with ⟨hcs, _⟩ | ⟨b, l, c, zs, hcs, _, hl, hm, hz, _, hcell, hwz⟩
  · simp at hcs
    obtain ⟨rfl, rfl, rfl⟩ := hcs
    exact ⟨_, .nilSlice, [], by simp, by simp, .inl ⟨rfl, rfl, rfl⟩⟩
  · simp at hcs
    obtain ⟨rfl, rfl, rfl⟩ := hcs
    obtain ⟨hspot, cc, e', f, hbc⟩ := hs b rfl
    simp at hz
    by_cases h0 : cap = 0
    · subst h0
      obtain rfl : len = 0 := by omega
      obtain ⟨bb, o, sp⟩ := b
      simp only at hspot hbc
      subst hspot
      have hM : M0 W bb = some ⟨bb, 0, cc.size, 1, false⟩ := by simp only [M0, hbc]
      refine ⟨.slice (some ⟨bb, 0, none⟩) 0 0, ?_, [], by simp, by simp, .inr ⟨bb, 0, 0, cc.toList.map (san W bb), e', 1, true, true, rfl, by simp, (M0_some hM).1, by simp only [rows, hbc], .inl rfl, by simp, by simp⟩⟩
      have := VRel.slice0 (M := M0 W) bb 0 o 0 _ hM (.inl rfl)
      simpa using this
    · refine ⟨_, slice_self hspot hbc hl, zs.take len, by simp; omega, fun n hn => hwz n (List.mem_of_mem_take hn), ?_⟩
      have hlen : (zs.take len).length = len := by simp; omega
      have := row_cells hspot hbc hl (off_lt hbc (by omega) (hcell (cap - 1) (by omega))) ((zs.take len).map (.int kd)) (by simp; omega) (fun j hj => by
        simp at hj
        refine ⟨_, hcell j (by omega), ?_⟩
        rw [san_of (fun _ h => by cases h) (.int _ _)]
        have e1 : zs.getD j 0 = zs[j] := by simp [List.getD_eq_getElem?_getD, show j < zs.length by omega]
        rw [e1]; simp)
      rw [hlen]; exact this
end

/-- The cells of a row of records that came in. -/
theorem row_cellsN {sz : Nat} {W : World} {x : Addr} {len cap : Nat} (hs : x.spot = none) {c : Array Value} {e : TypeId} {f : Nat × Nat} (hc : W.heap[x.block]? = some (.cells c e f)) (hl : len ≤ cap) (hlt : x.off + len * sz ≤ c.size) (cs : List Value) (hn : cs.length = len * sz)
    (hcs : ∀ j (h : j < cs.length), ∃ v, W.cell? (x.add j) = some v ∧ cs[j] = san W x.block v) : Sl sz (rows W) (.slice (some x) len cap) len cs := by
  obtain ⟨b, o, sp⟩ := x
  simp only at hs hc hlt hcs
  subst hs
  have hM : M0 W b = some ⟨b, 0, c.size, 1, false⟩ := by simp only [M0, hc]
  have ho : (rows W).obj b = some (.row (c.toList.map (san W b)) e 1 true true) := by simp only [rows, hc]
  refine .inr ⟨b, o, cap, _, e, 1, true, true, rfl, hl, (M0_some hM).1, ho, .inl rfl, by simp; omega, ?_⟩
  rw [← hn]
  apply List.ext_getElem?
  intro j
  rw [List.getElem?_take]
  split
  · rename_i hj
    obtain ⟨v, hv, e1⟩ := hcs j hj
    rw [List.getElem?_drop, List.getElem?_map, Array.getElem?_toList, List.getElem?_eq_getElem hj, e1]
    have hcell : c[o + j]? = some v := by
      by_cases hj0 : j = 0
      · subst hj0
        simpa [Addr.add, World.cell?, hc] using hv
      · simpa [Addr.add, World.cell?, hc, hj0] using hv
    rw [hcell]; rfl
  · rw [List.getElem?_eq_none (by omega)]

theorem cells_two {W : World} {base n : Nat} {a : Addr} {vs : List Value} (hn : n = 2) (h : W.cells? base a n = some vs) : ∃ v0 v1, vs = [v0, v1] ∧ W.cell? a = some v0 ∧ W.cell? (a.add 1) = some v1 := by
  subst hn
  unfold World.cells? at h
  split at h
  · simp only [List.range_succ, List.range_zero, List.nil_append, List.cons_append, List.mapM_cons, List.mapM_nil, add_zero, Option.pure_def, Option.bind_eq_bind, Option.bind_eq_some_iff, Option.some.injEq] at h
    obtain ⟨v, hv, l, ⟨w, hw, l2, rfl, rfl⟩, rfl⟩ := h
    exact ⟨v, w, rfl, hv, hw⟩
  · cases h

section
variable {P : Program} {W : World} {H : Type} {enc : TypeId × Value → H} {base fuel : Nat} {held : Bool} {t u : TypeId} {x : DataW H × List MemPlace} {f0 f1 : Field} {kd : IntKind}
theorem arg_recs {e e0 e1 : TypeId} {a : Option Addr} {len cap : Nat} (ht : P.underlying t = some (.slice e)) (he : P.underlying e = some (.struct #[f0, f1])) (o0 : f0.offset = 0) (o1 : f1.offset = 1) (t0 : f0.type = e0) (t1 : f1.type = e1) (c0 : P.cellsOf e0 = 1) (c1 : P.cellsOf e1 = 1) (ct : P.cellsOf e = 2)
    (h0 : P.underlying e0 = some (.int kd)) (h1 : P.underlying e1 = some (.slice u)) (hu : P.underlying u = some (.int .u8)) (hcu : P.cellsOf u = 1)
    (hs : ∀ x, a = some x → x.spot = none ∧ ∃ c e f, W.heap[x.block]? = some (.cells c e f)) (h : DataW.trod enc P W base (fun _ => true) held fuel t [.slice a len cap] = some x) :
    ∃ v, VRel (M0 W) v (.slice a len cap) ∧ ∃ fs : List (Int × List UInt8), fs.length ≤ 9223372036854775807 ∧ (∀ f ∈ fs, (Lit.int kd f.1).wf = true) ∧ BR (fun c => [.int kd c]) 2 (rows W) v fs := by
  have mx : maxLen = 9223372036854775807 := by decide
  subst t0 t1
  rcases DataW.trod_slice ht h with ⟨hcs, _⟩ | ⟨b, len', cap', elems, rest, n, _, hcs, rfl, hb, hl, hm, hlen, hel, hsp, _⟩
  · simp at hcs
    obtain ⟨rfl, rfl, rfl⟩ := hcs
    exact ⟨_, .nilSlice, [], by simp, by simp, [], rfl, .inl ⟨rfl, rfl, rfl⟩, fun j f p hf => by simp at hf⟩
  · simp at hcs
    obtain ⟨rfl, rfl, rfl⟩ := hcs
    obtain ⟨hspot, c, e', f, hbc⟩ := hs b rfl
    by_cases hc0 : cap = 0
    · subst hc0
      obtain rfl : len = 0 := by omega
      obtain ⟨bb, o, sp⟩ := b
      simp only at hspot hbc
      subst hspot
      have hM : M0 W bb = some ⟨bb, 0, c.size, 1, false⟩ := by simp only [M0, hbc]
      refine ⟨.slice (some ⟨bb, 0, none⟩) 0 0, ?_, [], by simp, by simp, [], rfl, .inr ⟨bb, 0, 0, c.toList.map (san W bb), e', 1, true, true, rfl, by simp, (M0_some hM).1, by simp only [rows, hbc], .inl rfl, by simp, by simp [rcells]⟩, fun j f p hf => by simp at hf⟩
      have := VRel.slice0 (M := M0 W) bb 0 o 0 _ hM (.inl rfl)
      simpa using this
    · have hall : ∀ j, j < cap → ∃ (z : Int) (w : Value) (y : DataW H × List MemPlace) (m : Nat), W.cell? (b.add (j * 2)) = some (.int kd z) ∧ W.cell? ((b.add (j * 2)).add 1) = some w ∧ (Lit.int kd z).wf = true ∧ DataW.trod enc P W base (fun _ => true) held m f1.type [w] = some y := by
        intro j hj
        have hx : ∃ y, (W.cells? base (b.add (j * P.cellsOf e)) (P.cellsOf e)).bind (DataW.trod enc P W base (fun _ => true) held n e) = some y := by
          by_cases hj2 : j < len
          · exact ⟨_, (hel j hj2).trans (List.getElem?_eq_getElem (by omega))⟩
          · obtain ⟨r1, r2⟩ := hsp rfl
            have := r2 (j - len) (by omega)
            rw [show len + (j - len) = j by omega] at this
            exact ⟨_, this.trans (List.getElem?_eq_getElem (by omega))⟩
        obtain ⟨y, hy⟩ := hx
        rw [ct, Option.bind_eq_some_iff] at hy
        obtain ⟨vs, hvs, hty⟩ := hy
        obtain ⟨v0, v1, rfl, hv0, hv1⟩ := cells_two rfl hvs
        obtain ⟨y0, y1, m, rfl, _, k0, k1⟩ := trod_struct2 he hty
        rw [o0, c0] at k0
        rw [o1, c1] at k1
        simp at k0 k1
        obtain ⟨z, rfl, hw⟩ : ∃ c, v0 = .int kd c ∧ (Lit.int kd c).wf = true := by
          cases m with
          | zero => simp [DataW.trod] at k0
          | succ n =>
            unfold DataW.trod at k0
            rw [h0] at k0
            cases v0 <;> simp at k0
            obtain ⟨⟨rfl, hw⟩, _⟩ := k0
            exact ⟨_, rfl, hw⟩
        exact ⟨z, v1, y1, m, hv0, hv1, hw, k1⟩
      have hex : ∀ j : Fin len, ∃ q : (Int × List UInt8) × (Option Addr × Nat), W.cell? (b.add (j * 2)) = some (.int kd q.1.1) ∧ (Lit.int kd q.1.1).wf = true ∧ (∃ w, W.cell? ((b.add (j * 2)).add 1) = some w ∧ san W b.block w = .slice q.2.1 q.1.2.length q.2.2) ∧ Bytes (rows W) (.slice q.2.1 q.1.2.length q.2.2) q.1.2 := by
        intro j
        obtain ⟨z, w, y, m, q1, q2, q3, q4⟩ := hall j.1 (by have := j.2; omega)
        obtain ⟨aa, cc, bs, e1, e2⟩ := san_bytes h1 hu hcu ⟨c, e', f, hbc⟩ q4
        exact ⟨((z, bs), (aa, cc)), q1, q3, ⟨w, q2, e1⟩, e2⟩
      have hch : ∃ g : Fin len → (Int × List UInt8) × (Option Addr × Nat), ∀ j : Fin len, W.cell? (b.add (j * 2)) = some (.int kd (g j).1.1) ∧ (Lit.int kd (g j).1.1).wf = true ∧ (∃ w, W.cell? ((b.add (j * 2)).add 1) = some w ∧ san W b.block w = .slice (g j).2.1 (g j).1.2.length (g j).2.2) ∧ Bytes (rows W) (.slice (g j).2.1 (g j).1.2.length (g j).2.2) (g j).1.2 :=
        ⟨fun j => Classical.choose (hex j), fun j => Classical.choose_spec (hex j)⟩
      obtain ⟨g, hg⟩ := hch
      refine ⟨_, slice_self hspot hbc hl, List.ofFn fun j => (g j).1, by simp; omega, fun f hf => ?_, List.ofFn fun j => (g j).2, by simp, ?_, fun j f p hf hp => ?_⟩
      · obtain ⟨j, rfl⟩ := (List.mem_ofFn).1 hf
        exact (hg j).2.1
      · have hfl : (List.ofFn fun j => (g j).1).length = len := by simp
        have haf : (List.ofFn fun j => (g j).2).length = (List.ofFn fun j => (g j).1).length := by simp
        have hadd : ∀ n, (b.add n).add 1 = b.add (n + 1) := fun n => by
          obtain ⟨bb, o, sp⟩ := b
          simp only at hspot
          subst hspot
          by_cases hn : n = 0
          · subst hn; simp [Addr.add]
          · simp [Addr.add, hn, Nat.add_assoc]
        obtain ⟨z, w, y, m, _, hlast, _⟩ := hall (cap - 1) (by omega)
        rw [hadd] at hlast
        have hlt := off_lt (cap := cap * 2) hbc (by omega) (by rw [show cap * 2 - 1 = (cap - 1) * 2 + 1 by omega]; exact hlast)
        have hcl : ((rcells (fun c => [.int kd c]) (List.ofFn fun j => (g j).1) (List.ofFn fun j => (g j).2)).flatten).length = len * 2 := by
          rw [flat_length (rcells_all (sz := 2) (fun x => rfl) _), rcells_length haf, hfl]
        rw [hfl]
        refine row_cellsN hspot hbc hl (by omega) _ hcl fun j hj => ?_
        rw [hcl] at hj
        have hj2 : j / 2 < len := by omega
        obtain ⟨q1, _, ⟨w2, q2, q3⟩, _⟩ := hg ⟨j / 2, hj2⟩
        have hget := flat_get (sz := 2) (l := rcells (fun c => [.int kd c]) (List.ofFn fun j => (g j).1) (List.ofFn fun j => (g j).2)) (j := j / 2) (f := j % 2) (rcells_all (sz := 2) (fun x => rfl) _) (by omega)
        rw [show j / 2 * 2 + j % 2 = j by omega, List.getElem?_eq_getElem (by rw [hcl]; exact hj)] at hget
        have hrow : (rcells (fun c => [Value.int kd c]) (List.ofFn fun j => (g j).1) (List.ofFn fun j => (g j).2))[j / 2]? = some [.int kd (g ⟨j / 2, hj2⟩).1.1, .slice (g ⟨j / 2, hj2⟩).2.1 (g ⟨j / 2, hj2⟩).1.2.length (g ⟨j / 2, hj2⟩).2.2] := by
          simp [rcells, rec1, List.getElem?_zipWith, List.getElem?_ofFn, hj2]
        rw [hrow] at hget
        rcases (by omega : j % 2 = 0 ∨ j % 2 = 1) with hr | hr
        · rw [hr] at hget
          refine ⟨_, by rw [show j = j / 2 * 2 by omega]; exact q1, ?_⟩
          rw [san_of (fun _ h => by cases h) (.int _ _)]
          exact Option.some.inj hget
        · rw [hr] at hget
          refine ⟨w2, by rw [show j = j / 2 * 2 + 1 by omega, ← hadd]; exact q2, ?_⟩
          rw [q3]
          exact Option.some.inj hget
      · simp only [List.getElem?_ofFn] at hf hp
        split at hf
        · rename_i hj
          rw [dif_pos hj] at hp
          cases hf; cases hp
          exact (hg ⟨j, hj⟩).2.2.2
        · cases hf
end
end Ab
end

section
namespace Ab
open Go Go.RowKit Go.ChangeShapes Go.WideShapes
set_option autoImplicit false
set_option linter.unusedVariables false
set_option linter.unusedSimpArgs false

/-! ### What comes in, whatever its type -/
inductive Dt where
  | b (v : Bool)
  | i (k : IntKind) (n : Int)
  | s (bs : List UInt8)
  | rc (ds : List Dt)
  | arr (ds : List Dt)
  | sl (ds : List Dt)

/-- Cells of a type that read as data. -/
inductive Has (P : Program) (h : AHeap) : Dt → TypeId → List Value → Prop
  | b (v : Bool) (t : TypeId) : P.underlying t = some .bool → Has P h (.b v) t [.bool v]
  | i (k : IntKind) (n : Int) (t : TypeId) : P.underlying t = some (.int k) → (Lit.int k n).wf = true → Has P h (.i k n) t [.int k n]
  | s (bs : List UInt8) (t : TypeId) : P.underlying t = some .string → bs.length ≤ 9223372036854775807 → Has P h (.s bs) t [.string ⟨bs.toArray⟩]
  | rc (ds : List Dt) (fs : Array Field) (t : TypeId) (cs : List Value) : P.underlying t = some (.struct fs) → cs.length = P.cellsOf t → ds.length = fs.size →
      (∀ (j : Nat) (d : Dt) (f : Field), ds[j]? = some d → fs[j]? = some f → Has P h d f.type ((cs.drop f.offset).take (P.cellsOf f.type))) → Has P h (.rc ds) t cs
  | arr (ds : List Dt) (n : Nat) (e t : TypeId) (cs : List Value) : P.underlying t = some (.array n e) → cs.length = P.cellsOf t → ds.length = n →
      (∀ (j : Nat) (d : Dt), ds[j]? = some d → Has P h d e ((cs.drop (j * P.cellsOf e)).take (P.cellsOf e))) → Has P h (.arr ds) t cs
  | sl (ds : List Dt) (e t : TypeId) (v : Value) (rs : List (List Value)) : P.underlying t = some (.slice e) → ds.length ≤ 9223372036854775807 → rs.length = ds.length → Sl (P.cellsOf e) h v ds.length rs.flatten →
      (∀ r ∈ rs, r.length = P.cellsOf e) → (∀ (j : Nat) (d : Dt) (r : List Value), ds[j]? = some d → rs[j]? = some r → Has P h d e r) → Has P h (.sl ds) t [v]

/-- A type of data. -/
def dataT (P : Program) : Nat → TypeId → Bool
  | 0, _ => false
  | n + 1, t => match P.underlying t with
    | some .bool | some (.int _) | some .string => true
    | some (.struct fs) => fs.toList.all fun f => dataT P n f.type
    | some (.array _ e) => dataT P n e
    | some (.slice e) => decide (0 < P.cellsOf e) && dataT P n e
    | _ => false

theorem cells_get {W : World} {base n : Nat} {a : Addr} {vs : List Value} (h : W.cells? base a n = some vs) : vs.length = n ∧ ∀ i, i < n → W.cell? (a.add i) = vs[i]? := by
  unfold World.cells? at h
  split at h
  · exact ⟨by simpa using mapM_some_length h, fun i hi => mapM_some_get h i i (by simp [hi])⟩
  · cases h

theorem add_add {b : Addr} (hs : b.spot = none) (n m : Nat) : (b.add n).add m = b.add (n + m) := by
  obtain ⟨bb, o, sp⟩ := b
  simp only at hs
  subst hs
  by_cases hn : n = 0
  · subst hn; simp [Addr.add]
  · by_cases hm : m = 0
    · subst hm; simp [Addr.add]
    · simp [Addr.add, hn, hm, Nat.add_assoc]

theorem ex_list {α : Type} {n : Nat} {p : Nat → α → Prop} (h : ∀ j, j < n → ∃ x, p j x) : ∃ l : List α, l.length = n ∧ ∀ (j : Nat) (x : α), l[j]? = some x → p j x := by
  refine ⟨List.ofFn fun j : Fin n => Classical.choose (h j.1 j.2), by simp, fun j x hx => ?_⟩
  simp only [List.getElem?_ofFn] at hx
  split at hx
  · rename_i hj
    obtain rfl := Option.some.inj hx
    exact Classical.choose_spec (h j hj)
  · cases hx

theorem san_flat {W : World} {k : Nat} {v : Value} (h : ∀ a, v ≠ .slice (some a) 0 0) (hr : VRel (M0 W) v v) : san W k v = v := san_of h hr

theorem has_of_trod {P : Program} {W : World} {H : Type} {enc : TypeId × Value → H} {base : Nat} {held : Bool} : ∀ (n fuel : Nat) (t : TypeId) (cs : List Value) (x : DataW H × List MemPlace) (k : Nat), dataT P n t = true →
    ((∃ a, Value.slice (some a) 0 0 ∈ cs) → ∃ c e f, W.heap[k]? = some (.cells c e f)) → DataW.trod enc P W base (fun _ => true) held fuel t cs = some x → ∃ d, Has P (rows W) d t (cs.map (san W k))
  | 0, _, _, _, _, _, h, _, _ => by simp [dataT] at h
  | n + 1, fuel, t, cs, x, k, hd, hk, h => by
    have mx : maxLen = 9223372036854775807 := by decide
    unfold dataT at hd
    split at hd
    · rename_i ht
      obtain ⟨b, rfl, _⟩ := DataW.trod_bool ht h
      refine ⟨.b b, ?_⟩
      rw [List.map_cons, List.map_nil, san_of (fun _ h => by cases h) (.bool _)]
      exact .b b t ht
    · rename_i kd ht
      obtain ⟨z, rfl, _, hw⟩ := DataW.trod_int ht h
      refine ⟨.i kd z, ?_⟩
      rw [List.map_cons, List.map_nil, san_of (fun _ h => by cases h) (.int _ _)]
      exact .i kd z t ht hw
    · rename_i ht
      obtain ⟨s, rfl, _, hw⟩ := DataW.trod_string ht h
      refine ⟨.s s.data.toList, ?_⟩
      rw [List.map_cons, List.map_nil, san_of (fun _ h => by cases h) (.string _)]
      exact .s s.data.toList t ht (by rw [mx] at hw; simpa using hw)
    · rename_i fs ht
      obtain ⟨xs, m, _, _, hl, hlen, hf⟩ := DataW.trod_struct ht h
      rw [List.all_eq_true] at hd
      have hex : ∀ j, j < fs.size → ∃ d, ∀ f, fs[j]? = some f → Has P (rows W) d f.type (((cs.map (san W k)).drop f.offset).take (P.cellsOf f.type)) := by
        intro j hj
        have hfj : fs[j]? = some fs[j] := Array.getElem?_eq_getElem hj
        have h1 := hf j _ hfj
        rw [List.getElem?_eq_getElem (by omega)] at h1
        obtain ⟨d, hd'⟩ := has_of_trod n m _ _ _ k (hd fs[j] (by simp)) (fun ⟨a, ha⟩ => hk ⟨a, List.mem_of_mem_drop (List.mem_of_mem_take ha)⟩) h1
        refine ⟨d, fun f hf2 => ?_⟩
        rw [hfj] at hf2
        obtain rfl := Option.some.inj hf2
        rw [← List.map_drop, ← List.map_take]; exact hd'
      obtain ⟨ds, h1, h2⟩ := ex_list hex
      exact ⟨.rc ds, .rc ds fs t _ ht (by simpa using hl) h1 fun j d f hdj hfj => h2 j d hdj f hfj⟩
    · rename_i len e ht
      obtain ⟨xs, m, _, _, hl, hlen, hf⟩ := DataW.trod_array ht h
      have hex : ∀ j, j < len → ∃ d, Has P (rows W) d e (((cs.map (san W k)).drop (j * P.cellsOf e)).take (P.cellsOf e)) := by
        intro j hj
        have h1 := hf j hj
        rw [List.getElem?_eq_getElem (by omega)] at h1
        obtain ⟨d, hd'⟩ := has_of_trod n m _ _ _ k hd (fun ⟨a, ha⟩ => hk ⟨a, List.mem_of_mem_drop (List.mem_of_mem_take ha)⟩) h1
        exact ⟨d, by rw [← List.map_drop, ← List.map_take]; exact hd'⟩
      obtain ⟨ds, h1, h2⟩ := ex_list hex
      exact ⟨.arr ds, .arr ds len e t _ ht (by simpa using hl) h1 fun j d hdj => h2 j d hdj⟩
    · rename_i e ht
      rw [Bool.and_eq_true, decide_eq_true_eq] at hd
      obtain ⟨h0, hd⟩ := hd
      rcases DataW.trod_slice ht h with ⟨rfl, _⟩ | ⟨b, len, cap, elems, rest, m, _, rfl, _, hb, hl, hm, hlen, hel, hsp, _⟩
      · refine ⟨.sl [], ?_⟩
        rw [List.map_cons, List.map_nil, san_of (fun _ h => by cases h) .nilSlice]
        exact .sl [] e t _ [] ht (by simp) rfl (.inl ⟨rfl, rfl, rfl⟩) (by simp) fun j d r hj => by simp at hj
      · by_cases hc0 : cap = 0
        · subst hc0
          obtain rfl : len = 0 := by omega
          obtain ⟨c, e', f, hkc⟩ := hk ⟨b, by simp⟩
          have hM : M0 W k = some ⟨k, 0, c.size, 1, false⟩ := by simp only [M0, hkc]
          refine ⟨.sl [], ?_⟩
          have hs : san W k (.slice (some b) 0 0) = .slice (some ⟨k, 0, none⟩) 0 0 := by simp [san, hM]
          rw [List.map_cons, List.map_nil, hs]
          exact .sl [] e t _ [] ht (by simp) rfl (.inr ⟨k, 0, 0, c.toList.map (san W k), e', 1, true, true, rfl, by simp, (M0_some hM).1, by simp only [rows, hkc], .inl rfl, by simp, by simp⟩) (by simp) fun j d r hj => by simp at hj
        · have hall : ∀ j, j < cap → ∃ vs y, W.cells? base (b.add (j * P.cellsOf e)) (P.cellsOf e) = some vs ∧ DataW.trod enc P W base (fun _ => true) held m e vs = some y := by
            intro j hj
            have hx : ∃ y, (W.cells? base (b.add (j * P.cellsOf e)) (P.cellsOf e)).bind (DataW.trod enc P W base (fun _ => true) held m e) = some y := by
              by_cases hj2 : j < len
              · exact ⟨_, (hel j hj2).trans (List.getElem?_eq_getElem (by omega))⟩
              · obtain ⟨r1, r2⟩ := hsp rfl
                have := r2 (j - len) (by omega)
                rw [show len + (j - len) = j by omega] at this
                exact ⟨_, this.trans (List.getElem?_eq_getElem (by omega))⟩
            obtain ⟨y, hy⟩ := hx
            rw [Option.bind_eq_some_iff] at hy
            obtain ⟨vs, hvs, hty⟩ := hy
            exact ⟨vs, y, hvs, hty⟩
          obtain ⟨v0, _, hv0, _⟩ := hall 0 (by omega)
          have hc := (cells_get hv0).2 0 h0
          have hvl := (cells_get hv0).1
          rw [List.getElem?_eq_getElem (by omega), Nat.zero_mul] at hc
          have hc' : W.cell? b = some v0[0] := by
            have e1 : (b.add 0).add 0 = b := by simp [Addr.add]
            rw [e1] at hc; exact hc
          obtain ⟨hspot, c, e', f, hbc, _⟩ := cell_has hc'
          have hex : ∀ j, j < len → ∃ q : Dt × List Value, q.2.length = P.cellsOf e ∧ (∀ i, i < P.cellsOf e → ∃ v, W.cell? (b.add (j * P.cellsOf e + i)) = some v ∧ q.2[i]? = some (san W b.block v)) ∧ Has P (rows W) q.1 e q.2 := by
            intro j hj
            obtain ⟨vs, y, hvs, hy⟩ := hall j (by omega)
            obtain ⟨g1, g2⟩ := cells_get hvs
            obtain ⟨d, hd'⟩ := has_of_trod n m e vs y b.block hd (fun _ => ⟨c, e', f, hbc⟩) hy
            refine ⟨(d, vs.map (san W b.block)), by simpa using g1, fun i hi => ?_, hd'⟩
            have := g2 i hi
            rw [add_add hspot, List.getElem?_eq_getElem (by omega)] at this
            exact ⟨_, this, by simp [show i < vs.length by omega]⟩
          obtain ⟨qs, hq1, hq2⟩ := ex_list hex
          refine ⟨.sl (qs.map (·.1)), ?_⟩
          have hs : san W k (.slice (some b) len cap) = .slice (some b) len cap := san_of (fun y hy => by cases hy; exact hc0 rfl) (slice_self hspot hbc hl)
          rw [List.map_cons, List.map_nil, hs]
          have hall2 : ∀ r ∈ qs.map (·.2), r.length = P.cellsOf e := by
            intro r hr
            obtain ⟨q, hq, rfl⟩ := List.mem_map.1 hr
            obtain ⟨j, hj⟩ := List.mem_iff_getElem?.1 hq
            exact (hq2 j q hj).1
          refine .sl _ e t _ (qs.map (·.2)) ht (by simp; omega) (by simp) ?_ hall2 fun j d r hdj hrj => ?_
          · rw [List.length_map, hq1]
            have hfl : (qs.map (·.2)).flatten.length = len * P.cellsOf e := by rw [flat_length hall2, List.length_map, hq1]
            obtain ⟨vl, _, hvl2, _⟩ := hall (cap - 1) (by omega)
            obtain ⟨gl1, gl2⟩ := cells_get hvl2
            have hlast := gl2 (P.cellsOf e - 1) (by omega)
            rw [add_add hspot, List.getElem?_eq_getElem (by omega)] at hlast
            have hpos : 0 < cap * P.cellsOf e := Nat.mul_pos (by omega) h0
            have heq : (cap - 1) * P.cellsOf e + (P.cellsOf e - 1) = cap * P.cellsOf e - 1 := by
              have : cap * P.cellsOf e = (cap - 1) * P.cellsOf e + P.cellsOf e := by
                rw [← Nat.succ_mul]; congr 1; omega
              omega
            rw [heq] at hlast
            have hlt := off_lt hbc hpos hlast
            have hmul := Nat.mul_le_mul_right (P.cellsOf e) hl
            refine row_cellsN hspot hbc hl (by omega) _ hfl fun j hj => ?_
            rw [hfl] at hj
            have hj2 : j / P.cellsOf e < len := Nat.div_lt_of_lt_mul (by rw [Nat.mul_comm]; exact hj)
            have hjm : j % P.cellsOf e < P.cellsOf e := Nat.mod_lt _ h0
            have hdm : j / P.cellsOf e * P.cellsOf e + j % P.cellsOf e = j := by rw [Nat.mul_comm]; exact Nat.div_add_mod _ _
            have hqj : qs[j / P.cellsOf e]? = some (qs[j / P.cellsOf e]'(by omega)) := List.getElem?_eq_getElem (by omega)
            obtain ⟨_, g2, _⟩ := hq2 _ _ hqj
            obtain ⟨v, g3, g4⟩ := g2 _ hjm
            rw [hdm] at g3
            refine ⟨v, g3, ?_⟩
            have hget := flat_get (l := qs.map (·.2)) (j := j / P.cellsOf e) (f := j % P.cellsOf e) hall2 hjm
            rw [hdm, List.getElem?_eq_getElem (by rw [hfl]; exact hj), List.getElem?_map, hqj] at hget
            simp only [Option.map_some, Option.bind_some] at hget
            rw [g4] at hget
            exact Option.some.inj hget
          · rw [List.getElem?_map] at hdj hrj
            cases hqj : qs[j]? with
            | none => rw [hqj] at hdj; cases hdj
            | some q =>
              rw [hqj] at hdj hrj
              cases hdj; cases hrj
              exact (hq2 j q hqj).2.2
    · cases hd

/-- A slice that came in. -/
theorem arg_has_slice {P : Program} {W : World} {H : Type} {enc : TypeId × Value → H} {base base' fuel : Nat} {held : Bool} (n : Nat) {t e : TypeId} {a : Option Addr} {len cap : Nat} {x : DataW H × List MemPlace} (hd : dataT P n t = true) (ht : P.underlying t = some (.slice e))
    (ok : Value.okWide P W .any base' t (.slice a len cap)) (h : DataW.trod enc P W base (fun _ => true) held fuel t (Value.slice a len cap).cells.toList = some x) :
    ∃ v' d, VRel (M0 W) v' (.slice a len cap) ∧ Has P (rows W) d t [v'] := by
  have hs := okWide_has ht ok
  have e : (Value.slice a len cap).cells.toList = [.slice a len cap] := rfl
  rw [e] at h
  obtain ⟨k, hk⟩ : ∃ k : Nat, (∃ b, Value.slice (some b) 0 0 ∈ [Value.slice a len cap]) → ∃ (c : Array Value) (e' : TypeId) (f : Nat × Nat), W.heap[k]? = some (Obj.cells c e' f) := by
    cases a with
    | none => exact ⟨0, fun ⟨b, hb⟩ => by simp at hb⟩
    | some b => exact ⟨b.block, fun _ => (hs b rfl).2⟩
  obtain ⟨d, hd'⟩ := has_of_trod n fuel t _ x k hd hk h
  exact ⟨san W k (.slice a len cap), d, san_rel _ _ _, hd'⟩

/-- A struct or an array that came in. -/
theorem arg_has_agg {P : Program} {W : World} {H : Type} {enc : TypeId × Value → H} {base base' fuel : Nat} {held : Bool} (n : Nat) {t : TypeId} {v : Value} {x : DataW H × List MemPlace} (hd : dataT P n t = true) (ht : (match P.underlying t with | some (.array _ _) | some (.struct _) => true | _ => false) = true)
    (ok : Value.okWide P W .any base' t v) (h : DataW.trod enc P W base (fun _ => true) held fuel t v.cells.toList = some x) :
    ∃ cs' d, VRel (M0 W) (.agg cs') v ∧ Has P (rows W) d t cs'.toList := by
  obtain ⟨cs, rfl, hr⟩ : ∃ cs, v = .agg cs ∧ Row.okWide P W .any base' t cs := by
    unfold Value.okWide at ok
    split at ok
    · obtain ⟨cs, h1, _, h2⟩ := ok; exact ⟨cs, h1, h2⟩
    · obtain ⟨cs, h1, _, h2⟩ := ok; exact ⟨cs, h1, h2⟩
    · rename_i h1 h2
      split at ht
      · rename_i hu; exact absurd hu (h2 _ _)
      · rename_i hu; exact absurd hu (h1 _)
      · cases ht
  have hk : ∃ k : Nat, (∃ b, Value.slice (some b) 0 0 ∈ cs.toList) → ∃ (c : Array Value) (e' : TypeId) (f : Nat × Nat), W.heap[k]? = some (Obj.cells c e' f) := by
    by_cases hb : ∃ b, Value.slice (some b) 0 0 ∈ cs.toList
    · obtain ⟨b, hb⟩ := hb
      obtain ⟨i, hi⟩ := List.mem_iff_getElem?.1 hb
      obtain ⟨ts, _, _, hall⟩ := hr
      obtain ⟨u, _, hu⟩ := hall i _ (by simpa using hi)
      refine ⟨b.block, fun _ => ?_⟩
      have : Value.okWide P W .any base' u (.slice (some b) 0 0) ∧ ∃ e, P.underlying u = some (.slice e) := by
        unfold Cell.okWide at hu
        split at hu <;> first | (rename_i hh; cases hh; done) | skip
        cases hp : P.underlying u with
        | none => simp [Cell.ok, hp] at hu
        | some d =>
          cases d <;> first
            | (simp [Cell.ok, hp] at hu; done)
            | exact ⟨by simp only [Value.okWide, hp, Cell.okWide]; exact hu, _, rfl⟩
      obtain ⟨h1, e, h2⟩ := this
      exact (okWide_has h2 h1 b rfl).2
    · exact ⟨0, fun h => absurd h hb⟩
  obtain ⟨k, hk⟩ := hk
  obtain ⟨d, hd'⟩ := has_of_trod n fuel t _ x k hd hk h
  refine ⟨cs.map (san W k), d, ?_, by simpa [Value.cells] using hd'⟩
  exact VRels.agg ⟨by simp, fun j a b => by simpa using san_rel W k _⟩

/-! ### What such data are -/
section
variable {P : Program} {h : AHeap} {d : Dt} {t : TypeId} {cs : List Value}
theorem Has.bool_inv (ht : P.underlying t = some .bool) (q : Has P h d t cs) : ∃ b, cs = [.bool b] := by
  cases q with
  | b v t h1 => exact ⟨v, rfl⟩
  | i k' n t h1 => rw [ht] at h1; cases h1
  | s bs t h1 => rw [ht] at h1; cases h1
  | rc ds fs t cs h1 => rw [ht] at h1; cases h1
  | arr ds n e t cs h1 => rw [ht] at h1; cases h1
  | sl ds e t v rs h1 => rw [ht] at h1; cases h1
theorem Has.int_inv {k : IntKind} (ht : P.underlying t = some (.int k)) (q : Has P h d t cs) : ∃ n, cs = [.int k n] ∧ (Lit.int k n).wf = true := by
  cases q with
  | i k' n t h1 h2 => rw [ht] at h1; cases h1; exact ⟨n, rfl, h2⟩
  | b v t h1 => rw [ht] at h1; cases h1
  | s bs t h1 => rw [ht] at h1; cases h1
  | rc ds fs t cs h1 => rw [ht] at h1; cases h1
  | arr ds n e t cs h1 => rw [ht] at h1; cases h1
  | sl ds e t v rs h1 => rw [ht] at h1; cases h1
theorem Has.str_inv (ht : P.underlying t = some .string) (q : Has P h d t cs) : ∃ bs : List UInt8, cs = [.string ⟨bs.toArray⟩] ∧ bs.length ≤ 9223372036854775807 := by
  cases q with
  | s bs t h1 h2 => exact ⟨bs, rfl, h2⟩
  | b v t h1 => rw [ht] at h1; cases h1
  | i k' n t h1 => rw [ht] at h1; cases h1
  | rc ds fs t cs h1 => rw [ht] at h1; cases h1
  | arr ds n e t cs h1 => rw [ht] at h1; cases h1
  | sl ds e t v rs h1 => rw [ht] at h1; cases h1
theorem Has.struct_inv {fs : Array Field} (ht : P.underlying t = some (.struct fs)) (q : Has P h d t cs) : cs.length = P.cellsOf t ∧ ∀ (j : Nat) (f : Field), fs[j]? = some f → ∃ d, Has P h d f.type ((cs.drop f.offset).take (P.cellsOf f.type)) := by
  cases q with
  | rc ds fs' t cs h1 h2 h3 h4 =>
    rw [ht] at h1; cases h1
    refine ⟨h2, fun j f hf => ?_⟩
    have hj := (Array.getElem?_eq_some_iff.1 hf).1
    exact ⟨_, h4 j _ f (List.getElem?_eq_getElem (by omega)) hf⟩
  | b v t h1 => rw [ht] at h1; cases h1
  | i k n t h1 => rw [ht] at h1; cases h1
  | s bs t h1 => rw [ht] at h1; cases h1
  | arr ds n e t cs h1 => rw [ht] at h1; cases h1
  | sl ds e t v rs h1 => rw [ht] at h1; cases h1
theorem Has.struct_at {fs : Array Field} (ht : P.underlying t = some (.struct fs)) (q : Has P h d t cs) : cs.length = P.cellsOf t ∧ ∀ (j ty off n : Nat), (fs[j]?).map (fun f => (f.type, f.offset)) = some (ty, off) → P.cellsOf ty = n → ∃ d, Has P h d ty ((cs.drop off).take n) := by
  obtain ⟨h1, h2⟩ := q.struct_inv ht
  refine ⟨h1, fun j ty off n e hn => ?_⟩
  rw [Option.map_eq_some_iff] at e
  obtain ⟨f, hf, e⟩ := e
  cases e
  subst hn
  exact h2 j f hf
theorem Has.arr_inv {n : Nat} {e : TypeId} (ht : P.underlying t = some (.array n e)) (q : Has P h d t cs) : cs.length = P.cellsOf t ∧ ∀ j, j < n → ∃ d, Has P h d e ((cs.drop (j * P.cellsOf e)).take (P.cellsOf e)) := by
  cases q with
  | arr ds n e t cs h1 h2 h3 h4 =>
    rw [ht] at h1; cases h1
    exact ⟨h2, fun j hj => ⟨_, h4 j _ (List.getElem?_eq_getElem (by omega))⟩⟩
  | b v t h1 => rw [ht] at h1; cases h1
  | i k n t h1 => rw [ht] at h1; cases h1
  | s bs t h1 => rw [ht] at h1; cases h1
  | rc ds fs t cs h1 => rw [ht] at h1; cases h1
  | sl ds e t v rs h1 => rw [ht] at h1; cases h1
theorem Has.sl_inv {e : TypeId} (ht : P.underlying t = some (.slice e)) (q : Has P h d t cs) : ∃ v rs, cs = [v] ∧ List.length rs ≤ 9223372036854775807 ∧ Sl (P.cellsOf e) h v rs.length rs.flatten ∧ ∀ r ∈ rs, r.length = P.cellsOf e ∧ ∃ d, Has P h d e r := by
  cases q with
  | sl ds e t v rs h1 h2 h3 h4 h5 h6 =>
    rw [ht] at h1; cases h1
    refine ⟨v, rs, rfl, by omega, by rw [h3]; exact h4, fun r hr => ⟨h5 r hr, ?_⟩⟩
    obtain ⟨j, hj⟩ := List.mem_iff_getElem?.1 hr
    have := (List.getElem?_eq_some_iff.1 hj).1
    exact ⟨_, h6 j _ r (List.getElem?_eq_getElem (by omega)) hj⟩
  | b v t h1 => rw [ht] at h1; cases h1
  | i k n t h1 => rw [ht] at h1; cases h1
  | s bs t h1 => rw [ht] at h1; cases h1
  | rc ds fs t cs h1 => rw [ht] at h1; cases h1
  | arr ds n e t cs h1 => rw [ht] at h1; cases h1
/-- An array of bytes. -/
theorem Has.u8s {n : Nat} {e : TypeId} (ht : P.underlying t = some (.array n e)) (he : P.underlying e = some (.int .u8)) (ce : P.cellsOf e = 1) (ct : P.cellsOf t = n) (q : Has P h d t cs) : ∃ bs : List UInt8, cs = bs.map B ∧ bs.length = n := by
  obtain ⟨h1, h2⟩ := q.arr_inv ht
  rw [ct] at h1
  have hex : ∀ j, j < n → ∃ b : UInt8, cs[j]? = some (B b) := fun j hj => by
    obtain ⟨d, k⟩ := h2 j hj
    rw [ce, Nat.mul_one] at k
    obtain ⟨z, hz, hw⟩ := k.int_inv he
    simp only [Lit.wf, IntKind.min, IntKind.max, IntKind.signed, IntKind.bits, Bool.and_eq_true, decide_eq_true_eq] at hw
    simp at hw
    refine ⟨UInt8.ofNat z.toNat, ?_⟩
    have : cs[j]? = some (.int .u8 z) := by
      have h3 := congrArg (·[0]?) hz
      simp only [List.getElem?_take, List.getElem?_drop] at h3
      simpa using h3
    rw [this]
    simp only [B, UInt8.toNat_ofNat', Option.some.injEq, Value.int.injEq, true_and]
    omega
  obtain ⟨bs, h3, h4⟩ := ex_list hex
  refine ⟨bs, ?_, h3⟩
  apply List.ext_getElem?
  intro j
  rw [List.getElem?_map]
  cases hb : bs[j]? with
  | none =>
    have : bs.length ≤ j := List.getElem?_eq_none_iff.1 hb
    rw [List.getElem?_eq_none (by omega)]; rfl
  | some b => exact h4 j b hb
/-- A list of such data, each told. -/
theorem map_of {α β : Type} {f : α → β} {p : α → Prop} : ∀ {rs : List β}, (∀ r ∈ rs, ∃ x, r = f x ∧ p x) → ∃ l : List α, rs = l.map f ∧ ∀ x ∈ l, p x
  | [], _ => ⟨[], rfl, fun x hx => by cases hx⟩
  | r :: rs, h => by
    obtain ⟨x, hx, px⟩ := h r (by simp)
    obtain ⟨l, hl, pl⟩ := map_of (f := f) (p := p) (rs := rs) fun r hr => h r (by simp [hr])
    exact ⟨x :: l, by rw [hx, hl]; rfl, fun y hy => by rcases List.mem_cons.1 hy with rfl | hy; exact px; exact pl y hy⟩
end
end Ab
end

section
/- What the listed package-level variables hold, in the abstract heap of a world. -/
namespace Ab
open Go Go.Lib
set_option autoImplicit false
theorem san_int {w : World} {b : Nat} {k : IntKind} {n : Int} : san w b (.int k n) = .int k n := by
  unfold san
  exact if_pos (VRel.int _ _)
/-- An array of integers that is listed. -/
theorem tab_at {P : Program} {W : World} {l : List (String × DataW Unit)} (h : laidMet P l W) {n : String} {k : IntKind} {zs : List Int} {i : Nat} (hm : l[i]? = some (n, tabData k zs)) {g : Nat} {t e : TypeId} {m : Nat}
    (hg : P.globalNamed n = some g) (hy : (P.globals[g]?).map (·.type) = some t) (ht : P.underlying t = some (.array m e)) (he : P.underlying e = some (.int k)) (hce : P.cellsOf e = 1) (hct : P.cellsOf t = m) :
    g < W.heap.size ∧ ∃ e', (rows W).obj g = some (.row (zs.map fun z => Value.int k z) e' 1 true true) := by
  obtain ⟨g', t', cs, fuel, p, hg', hty, hvar, hd⟩ := laidMet.reads h (List.mem_of_getElem? hm)
  obtain rfl := Option.some.inj (hg.symm.trans hg')
  obtain rfl := Option.some.inj (hy.symm.trans hty)
  have hcs := cells_of_tab ht he hce hct hd
  simp only [World.var?, hg, Option.bind_some] at hvar
  split at hvar
  · rename_i cs' e' f hc
    cases hvar
    refine ⟨(Array.getElem?_eq_some_iff.1 hc).1, e', ?_⟩
    simp only [rows, hc, hcs, List.map_map]
    congr 2
    apply List.map_congr_left
    intro z _
    exact san_int
  · cases hvar
end Ab
end
