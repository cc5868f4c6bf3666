import Derived.Test.YtjjocbijmhmdkaaAbY
import Derived.Test.YtjjocbijmhmdkaaAbWalk
import Derived.ChangeSlices
import Derived.ChangeArms
namespace Ab
open Go Go.RowKit Go.ChangeShapes
set_option autoImplicit false
set_option linter.unusedVariables false
set_option linter.unusedSimpArgs false

/-! ### Lists of bytes that come in -/
theorem cell_has {W : World} {x : Addr} {v : Value} (h : W.cell? x = some v) : x.spot = none ∧ ∃ c e f, W.heap[x.block]? = some (.cells c e f) ∧ c[x.off]? = some v := by
  unfold World.cell? at h
  split at h
  · rename_i c e f hc
    split at h
    · cases h
    · rename_i hs
      exact ⟨by cases hx : x.spot <;> simp_all, c, e, f, hc, h⟩
  · cases h

theorem slice_self {W : World} {x : Addr} {len cap : Nat} (hs : x.spot = none) {c : Array Value} {e : TypeId} {f : Nat × Nat} (hc : W.heap[x.block]? = some (.cells c e f)) (hl : len ≤ cap) : VRel (M0 W) (.slice (some x) len cap) (.slice (some x) len cap) := by
  obtain ⟨b, o, sp⟩ := x
  simp only at hs hc
  subst hs
  have hM : M0 W b = some ⟨b, 0, c.size, 1, false⟩ := by simp only [M0, hc]
  have := VRel.slice (M := M0 W) b o len cap cap _ hM hl (.inl rfl)
  simpa using this

/-- The cells of a row that came in. -/
theorem row_cells {W : World} {x : Addr} {len cap : Nat} (hs : x.spot = none) {c : Array Value} {e : TypeId} {f : Nat × Nat} (hc : W.heap[x.block]? = some (.cells c e f)) (hl : len ≤ cap) (hlt : x.off + cap ≤ c.size) (cs : List Value) (hn : cs.length = len)
    (hcs : ∀ j (h : j < cs.length), ∃ v, W.cell? (x.add j) = some v ∧ cs[j] = san W x.block v) : Sl 1 (rows W) (.slice (some x) len cap) len cs := by
  obtain ⟨b, o, sp⟩ := x
  simp only at hs hc hlt hcs
  subst hs
  have hM : M0 W b = some ⟨b, 0, c.size, 1, false⟩ := by simp only [M0, hc]
  have ho : (rows W).obj b = some (.row (c.toList.map (san W b)) e 1 true true) := by simp only [rows, hc]
  refine .inr ⟨b, o, cap, _, e, 1, true, true, rfl, hl, (M0_some hM).1, ho, .inl rfl, by simp; omega, ?_⟩
  subst hn
  apply List.ext_getElem?
  intro j
  rw [Nat.mul_one, List.getElem?_take]
  split
  · rename_i hj
    obtain ⟨v, hv, e1⟩ := hcs j hj
    rw [List.getElem?_drop, List.getElem?_map, Array.getElem?_toList, List.getElem?_eq_getElem hj, e1]
    have hcell : c[o + j]? = some v := by
      by_cases hj0 : j = 0
      · subst hj0
        simpa [Addr.add, World.cell?, hc] using hv
      · simpa [Addr.add, World.cell?, hc, hj0] using hv
    rw [hcell]; rfl
  · rw [List.getElem?_eq_none (by omega)]

theorem off_lt {W : World} {x : Addr} {cap : Nat} {v : Value} {c : Array Value} {e : TypeId} {f : Nat × Nat} (hc : W.heap[x.block]? = some (.cells c e f)) (h0 : 0 < cap) (h : W.cell? (x.add (cap - 1)) = some v) : x.off + cap ≤ c.size := by
  obtain ⟨b, o, sp⟩ := x
  simp only at hc ⊢
  have : c[o + (cap - 1)]? = some v := by
    by_cases hj0 : cap - 1 = 0
    · rw [hj0] at h ⊢
      simp only [Addr.add, World.cell?, hc, if_true] at h
      split at h
      · cases h
      · simpa using h
    · simp only [Addr.add, World.cell?, hc, if_neg hj0] at h
      split at h
      · cases h
      · exact h
  have := (Array.getElem?_eq_some_iff.1 this).1
  omega

theorem add_zero (x : Addr) : x.add 0 = x := by simp [Addr.add]

section
variable {P : Program} {W : World} {H : Type} {enc : TypeId × Value → H} {base fuel k : Nat} {held : Bool} {t e : TypeId} {v : Value} {x : DataW H × List MemPlace}

/-- Bytes in a cell of block k. -/
theorem san_bytes (ht : P.underlying t = some (.slice e)) (he : P.underlying e = some (.int .u8)) (hc : P.cellsOf e = 1) (hk : ∃ c e f, W.heap[k]? = some (.cells c e f))
    (h : DataW.trod enc P W base (fun _ => true) held fuel t [v] = some x) : ∃ a cap bs, san W k v = .slice a (List.length bs) cap ∧ Bytes (rows W) (.slice a bs.length cap) bs := by
  rcases open_ints ht he hc h with ⟨hcs, _⟩ | ⟨a, len, cap, zs, hcs, hb, hl, hm, hz, _, hcell, hwz⟩
  · simp at hcs
    subst hcs
    exact ⟨none, 0, [], san_of (fun _ h => by cases h) .nilSlice, Bytes.nil _⟩
  · simp at hcs
    subst hcs
    simp only [if_true] at hz
    by_cases h0 : cap = 0
    · subst h0
      obtain rfl : len = 0 := by omega
      obtain ⟨c, e', f, hkc⟩ := hk
      have hM : M0 W k = some ⟨k, 0, c.size, 1, false⟩ := by simp only [M0, hkc]
      refine ⟨some ⟨k, 0, none⟩, 0, [], by simp [san, hM], .inr ⟨k, 0, 0, c.toList.map (san W k), e', 1, true, true, rfl, by simp, (M0_some hM).1, by simp only [rows, hkc], .inl rfl, by simp, by simp⟩⟩
    · have hc0 := hcell 0 (by omega)
      rw [add_zero] at hc0
      obtain ⟨hs, c, e', f, hbc, _⟩ := cell_has hc0
      have hv := slice_self (len := len) (cap := cap) hs hbc hl
      refine ⟨some a, cap, bys (zs.take len), ?_, ?_⟩
      · rw [san_of (fun y hy => by cases hy; exact h0 rfl) hv]
        congr 1
        simp [bys]; omega
      · have hlen : (bys (zs.take len)).length = len := by simp [bys]; omega
        have sl : Sl 1 (rows W) (.slice (some a) len cap) len ((bys (zs.take len)).map B) := by
          refine row_cells hs hbc hl (off_lt hbc (by omega) (hcell (cap - 1) (by omega))) _ (by simp [hlen]) fun j hj => ?_
          simp only [List.length_map, hlen] at hj
          refine ⟨_, hcell j (by omega), ?_⟩
          have hj2 : j < zs.length := by omega
          have hw := hwz _ (List.getElem_mem hj2)
          simp only [Lit.wf, IntKind.min, IntKind.max, IntKind.signed, IntKind.bits, Bool.and_eq_true, decide_eq_true_eq] at hw
          rw [san_of (fun _ h => by cases h) (.int _ _)]
          have e1 : zs.getD j 0 = zs[j] := by simp [List.getD_eq_getElem?_getD, hj2]
          rw [e1]
          simp only [bys, List.map_map, List.getElem_map, List.getElem_take, Function.comp, B, UInt8.toNat_ofNat']
          congr 1
          simp at hw
          omega
        rcases sl with ⟨e1, _⟩ | ⟨i, off, cap', c', e'', sz', ti, ro, e1, h1, h2, h3, h4, h5, h6⟩
        · cases e1
        · rw [hlen]
          exact .inr ⟨i, off, cap', c', e'', sz', ti, ro, by rw [hlen]; exact e1, by rw [hlen]; exact h1, h2, h3, h4, by rw [hlen]; simpa using h5, by rw [hlen]; simpa using h6⟩

theorem cells_one {n : Nat} {a : Addr} {vs : List Value} (hn : n = 1) (h : W.cells? base a n = some vs) : ∃ v, vs = [v] ∧ W.cell? a = some v := by
  subst hn
  unfold World.cells? at h
  split at h
  · simp only [List.range_succ, List.range_zero, List.nil_append, List.mapM_cons, List.mapM_nil, add_zero, Option.pure_def, Option.bind_eq_bind, Option.bind_eq_some_iff, Option.some.injEq] at h
    obtain ⟨v, hv, _, rfl, rfl⟩ := h
    exact ⟨v, rfl, hv⟩
  · cases h

/-- A slice of slices of bytes that came in. -/
theorem arg_pcs {u : TypeId} {a : Option Addr} {len cap : Nat} (ht : P.underlying t = some (.slice e)) (he : P.underlying e = some (.slice u)) (hu : P.underlying u = some (.int .u8)) (hce : P.cellsOf e = 1) (hcu : P.cellsOf u = 1)
    (hs : ∀ x, a = some x → x.spot = none ∧ ∃ c e f, W.heap[x.block]? = some (.cells c e f)) (h : DataW.trod enc P W base (fun _ => true) held fuel t [.slice a len cap] = some x) :
    ∃ v, VRel (M0 W) v (.slice a len cap) ∧ ∃ ps, ps.length ≤ 9223372036854775807 ∧ Pcs (rows W) v ps := by
  have mx : maxLen = 9223372036854775807 := by decide
  rcases DataW.trod_slice ht h with ⟨hcs, _⟩ | ⟨b, len', cap', elems, rest, n, _, hcs, rfl, hb, hl, hm, hlen, hel, hsp, _⟩
  · simp at hcs
    obtain ⟨rfl, rfl, rfl⟩ := hcs
    exact ⟨_, .nilSlice, [], by simp, [], .inl ⟨rfl, rfl, rfl⟩, fun j hj => by simp at hj⟩
  · simp at hcs
    obtain ⟨rfl, rfl, rfl⟩ := hcs
    obtain ⟨hspot, c, e', f, hbc⟩ := hs b rfl
    by_cases h0 : cap = 0
    · subst h0
      obtain rfl : len = 0 := by omega
      obtain ⟨bb, o, sp⟩ := b
      simp only at hspot hbc
      subst hspot
      have hM : M0 W bb = some ⟨bb, 0, c.size, 1, false⟩ := by simp only [M0, hbc]
      refine ⟨.slice (some ⟨bb, 0, none⟩) 0 0, ?_, [], by simp, [], .inr ⟨bb, 0, 0, c.toList.map (san W bb), e', 1, true, true, rfl, by simp, (M0_some hM).1, by simp only [rows, hbc], .inl rfl, by simp, by simp⟩, fun j hj => by simp at hj⟩
      have := VRel.slice0 (M := M0 W) bb 0 o 0 _ hM (.inl rfl)
      simpa using this
    · have hall : ∀ j, j < cap → ∃ v y, W.cell? (b.add j) = some v ∧ DataW.trod enc P W base (fun _ => true) held n e [v] = some y := by
        intro j hj
        have hx : ∃ y, (W.cells? base (b.add (j * P.cellsOf e)) (P.cellsOf e)).bind (DataW.trod enc P W base (fun _ => true) held n e) = some y := by
          by_cases hj2 : j < len
          · exact ⟨_, (hel j hj2).trans (List.getElem?_eq_getElem (by omega))⟩
          · obtain ⟨r1, r2⟩ := hsp rfl
            have := r2 (j - len) (by omega)
            rw [show len + (j - len) = j by omega] at this
            exact ⟨_, this.trans (List.getElem?_eq_getElem (by omega))⟩
        obtain ⟨y, hy⟩ := hx
        rw [hce, Nat.mul_one, Option.bind_eq_some_iff] at hy
        obtain ⟨vs, hvs, hty⟩ := hy
        obtain ⟨v, rfl, hv⟩ := cells_one rfl hvs
        exact ⟨v, y, hv, hty⟩
      have hex : ∀ j : Fin len, ∃ q : Value × List UInt8, ∃ v, W.cell? (b.add j) = some v ∧ san W b.block v = q.1 ∧ ∃ a cap, q.1 = .slice a q.2.length cap ∧ Bytes (rows W) q.1 q.2 := by
        intro j
        obtain ⟨v, y, hv, hy⟩ := hall j.1 (by have := j.2; omega)
        obtain ⟨aa, cc, bs, e1, e2⟩ := san_bytes he hu hcu ⟨c, e', f, hbc⟩ hy
        exact ⟨(san W b.block v, bs), v, hv, rfl, aa, cc, e1, by rw [e1]; exact e2⟩
      have hch : ∃ g : Fin len → Value × List UInt8, ∀ j : Fin len, ∃ v, W.cell? (b.add j) = some v ∧ san W b.block v = (g j).1 ∧ ∃ a cap, (g j).1 = .slice a (g j).2.length cap ∧ Bytes (rows W) (g j).1 (g j).2 :=
        ⟨fun j => Classical.choose (hex j), fun j => Classical.choose_spec (hex j)⟩
      obtain ⟨g, hg⟩ := hch
      obtain ⟨vl, _, hvl, _⟩ := hall (cap - 1) (by omega)
      refine ⟨_, slice_self hspot hbc hl, List.ofFn fun j => (g j).2, by simp; omega, List.ofFn fun j => (g j).1, ?_, fun j hj => ?_⟩
      · have := row_cells hspot hbc hl (off_lt hbc (by omega) hvl) (List.ofFn fun j => (g j).1) (by simp) (fun j hj => by
          obtain ⟨v, h1, h2, _⟩ := hg ⟨j, by simpa using hj⟩
          exact ⟨v, h1, by simp [h2]⟩)
        simpa using this
      · obtain ⟨v, h1, h2, aa, cc, e1, e2⟩ := hg ⟨j, by simpa using hj⟩
        refine ⟨aa, cc, ?_, ?_⟩
        · rw [List.getElem?_eq_getElem (by simpa using hj)]
          simp only [List.getElem_ofFn]
          rw [e1]
        · simp only [List.getElem_ofFn]
          rw [← e1]; exact e2
end
end Ab
