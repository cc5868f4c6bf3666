import Derived.Test.YtjjocbijmhmdkaaAbY2
import Derived.Test.YtjjocbijmhmdkaaAbRecs
import Derived.WideShapes
namespace Ab
open Go Go.RowKit Go.ChangeShapes Go.WideShapes
set_option autoImplicit false
set_option linter.unusedVariables false
set_option linter.unusedSimpArgs false

/-! ### Records that come in: a number and bytes -/
theorem rec_has {P : Program} {W : World} {base : Nat} {t e0 e1 u : TypeId} {fs : Array Field} {cs : Array Value} (ht : P.underlying t = some (.struct fs)) (hts : P.cellTypes P.depth t = some [e0, e1]) (h1 : P.underlying e1 = some (.slice u))
    (h : Value.okWide P W .any base t (.agg cs)) {a : Option Addr} {len cap : Nat} (hc : cs[1]? = some (.slice a len cap)) : ∀ x, a = some x → x.spot = none ∧ ∃ c e f, W.heap[x.block]? = some (.cells c e f) := by
  simp only [Value.okWide, ht] at h
  obtain ⟨cs', e', _, ts, hts', _, hr⟩ := h
  cases e'
  rw [hts] at hts'
  cases hts'
  obtain ⟨u', hu, ok⟩ := hr 1 _ hc
  simp at hu
  subst hu
  exact okWide_has (t := e1) (e := u) (base := base) h1 (by simp only [Value.okWide, h1]; exact ok)

section
variable {P : Program} {W : World} {H : Type} {enc : TypeId × Value → H} {base base' fuel : Nat} {held : Bool} {t u : TypeId} {v : Value} {x : DataW H × List MemPlace} {f0 f1 : Field} {kd : IntKind}

/-- A slice of bytes that came in, by its type. -/
theorem arg_bytes' {e : TypeId} {a : Option Addr} {len cap : Nat} (ht : P.underlying t = some (.slice e)) (he : P.underlying e = some (.int .u8)) (hc : P.cellsOf e = 1)
    (hs : ∀ x, a = some x → x.spot = none ∧ ∃ c e f, W.heap[x.block]? = some (.cells c e f)) (h : DataW.trod enc P W base (fun _ => true) held fuel t [.slice a len cap] = some x) :
    ∃ a' cap' bs, VRel (M0 W) (.slice a' (List.length bs) cap') (.slice a len cap) ∧ Bytes (rows W) (.slice a' bs.length cap') bs := by
  have key : ∃ v, VRel (M0 W) v (.slice a len cap) ∧ ∃ bs, Bytes (rows W) v bs := by
    rcases open_ints ht he hc h with ⟨hcs, _⟩ | ⟨x, l, c, zs, hcs, _, hl, hm, hz, _, hcell, hwz⟩
    · simp at hcs
      obtain ⟨rfl, rfl, rfl⟩ := hcs
      obtain ⟨v, k, b⟩ := arg_bytes (W := W) (.inl ⟨rfl, rfl, rfl, rfl⟩) hs
      exact ⟨v, k, _, b⟩
    · simp at hcs
      obtain ⟨rfl, rfl, rfl⟩ := hcs
      obtain ⟨v, k, b⟩ := arg_bytes (W := W) (.inr ⟨_, rfl, hl, hm, by simpa using hz, hcell, hwz⟩) hs
      exact ⟨v, k, _, b⟩
  obtain ⟨v, k, bs, b⟩ := key
  obtain ⟨a', cap', rfl⟩ := b.val
  exact ⟨a', cap', bs, k, b⟩

theorem arg_rec {e0 e1 : TypeId} (ht : P.underlying t = some (.struct #[f0, f1])) (o0 : f0.offset = 0) (o1 : f1.offset = 1) (t0 : f0.type = e0) (t1 : f1.type = e1) (c0 : P.cellsOf e0 = 1) (c1 : P.cellsOf e1 = 1) (hts : P.cellTypes P.depth t = some [e0, e1]) (ct : P.cellsOf t = 2)
    (h0 : P.underlying e0 = some (.int kd)) (h1 : P.underlying e1 = some (.slice u)) (hu : P.underlying u = some (.int .u8)) (hcu : P.cellsOf u = 1)
    (hv : Value.okWide P W .any base' t v) (h : DataW.trod enc P W base (fun _ => true) held fuel t v.cells.toList = some x) :
    ∃ c a cap bs, (Lit.int kd c).wf = true ∧ VRel (M0 W) (.agg #[.int kd c, .slice a (List.length bs) cap]) v ∧ Bytes (rows W) (.slice a bs.length cap) bs := by
  obtain ⟨cs, rfl, hcs⟩ := okWide_struct ht hv
  subst t0 t1
  obtain ⟨y0, y1, n, rfl, hl, k0, k1⟩ := trod_struct2 ht h
  rw [o0, c0] at k0
  rw [o1, c1] at k1
  obtain ⟨l⟩ := cs
  simp only [Value.cells] at hl k0 k1
  rw [ct] at hl
  match l, hl with
  | [x0, x1], _ =>
    simp at k0 k1
    obtain ⟨c, rfl, hw⟩ : ∃ c, x0 = .int kd c ∧ (Lit.int kd c).wf = true := by
      cases n with
      | zero => simp [DataW.trod] at k0
      | succ n =>
        unfold DataW.trod at k0
        rw [h0] at k0
        cases x0 <;> simp at k0
        obtain ⟨⟨rfl, hw⟩, _⟩ := k0
        exact ⟨_, rfl, hw⟩
    have hsl : ∃ a len cap, x1 = .slice a len cap := by
      rcases open_ints h1 hu hcu k1 with ⟨hcs, _⟩ | ⟨x, l, c, zs, hcs, _⟩ <;> simp at hcs <;> exact ⟨_, _, _, hcs⟩
    obtain ⟨a, len, cap, rfl⟩ := hsl
    obtain ⟨a', cap', bs, k, b⟩ := arg_bytes' (enc := enc) h1 hu hcu (rec_has ht hts h1 hv (by rfl)) k1
    exact ⟨c, a', cap', bs, hw, VRels.agg (VRels.cons (.int _ _) (VRels.cons k VRels.nil)), b⟩

/-- A slice of numbers that came in. -/
theorem arg_ints {e : TypeId} {a : Option Addr} {len cap : Nat} (ht : P.underlying t = some (.slice e)) (he : P.underlying e = some (.int kd)) (hc : P.cellsOf e = 1)
    (hs : ∀ x, a = some x → x.spot = none ∧ ∃ c e f, W.heap[x.block]? = some (.cells c e f)) (h : DataW.trod enc P W base (fun _ => true) held fuel t [.slice a len cap] = some x) :
    ∃ v, VRel (M0 W) v (.slice a len cap) ∧ ∃ zs : List Int, zs.length ≤ 9223372036854775807 ∧ (∀ n ∈ zs, (Lit.int kd n).wf = true) ∧ Sl 1 (rows W) v zs.length (zs.map (.int kd)) := by
  have mx : maxLen = 9223372036854775807 := by decide
  rcases open_ints ht he hc h with ⟨hcs, _⟩ | ⟨b, l, c, zs, hcs, _, hl, hm, hz, _, hcell, hwz⟩
  · simp at hcs
    obtain ⟨rfl, rfl, rfl⟩ := hcs
    exact ⟨_, .nilSlice, [], by simp, by simp, .inl ⟨rfl, rfl, rfl⟩⟩
  · simp at hcs
    obtain ⟨rfl, rfl, rfl⟩ := hcs
    obtain ⟨hspot, cc, e', f, hbc⟩ := hs b rfl
    simp at hz
    by_cases h0 : cap = 0
    · subst h0
      obtain rfl : len = 0 := by omega
      obtain ⟨bb, o, sp⟩ := b
      simp only at hspot hbc
      subst hspot
      have hM : M0 W bb = some ⟨bb, 0, cc.size, 1, false⟩ := by simp only [M0, hbc]
      refine ⟨.slice (some ⟨bb, 0, none⟩) 0 0, ?_, [], by simp, by simp, .inr ⟨bb, 0, 0, cc.toList.map (san W bb), e', 1, true, true, rfl, by simp, (M0_some hM).1, by simp only [rows, hbc], .inl rfl, by simp, by simp⟩⟩
      have := VRel.slice0 (M := M0 W) bb 0 o 0 _ hM (.inl rfl)
      simpa using this
    · refine ⟨_, slice_self hspot hbc hl, zs.take len, by simp; omega, fun n hn => hwz n (List.mem_of_mem_take hn), ?_⟩
      have hlen : (zs.take len).length = len := by simp; omega
      have := row_cells hspot hbc hl (off_lt hbc (by omega) (hcell (cap - 1) (by omega))) ((zs.take len).map (.int kd)) (by simp; omega) (fun j hj => by
        simp at hj
        refine ⟨_, hcell j (by omega), ?_⟩
        rw [san_of (fun _ h => by cases h) (.int _ _)]
        have e1 : zs.getD j 0 = zs[j] := by simp [List.getD_eq_getElem?_getD, show j < zs.length by omega]
        rw [e1]; simp)
      rw [hlen]; exact this
end

/-- The cells of a row of records that came in. -/
theorem row_cellsN {sz : Nat} {W : World} {x : Addr} {len cap : Nat} (hs : x.spot = none) {c : Array Value} {e : TypeId} {f : Nat × Nat} (hc : W.heap[x.block]? = some (.cells c e f)) (hl : len ≤ cap) (hlt : x.off + len * sz ≤ c.size) (cs : List Value) (hn : cs.length = len * sz)
    (hcs : ∀ j (h : j < cs.length), ∃ v, W.cell? (x.add j) = some v ∧ cs[j] = san W x.block v) : Sl sz (rows W) (.slice (some x) len cap) len cs := by
  obtain ⟨b, o, sp⟩ := x
  simp only at hs hc hlt hcs
  subst hs
  have hM : M0 W b = some ⟨b, 0, c.size, 1, false⟩ := by simp only [M0, hc]
  have ho : (rows W).obj b = some (.row (c.toList.map (san W b)) e 1 true true) := by simp only [rows, hc]
  refine .inr ⟨b, o, cap, _, e, 1, true, true, rfl, hl, (M0_some hM).1, ho, .inl rfl, by simp; omega, ?_⟩
  rw [← hn]
  apply List.ext_getElem?
  intro j
  rw [List.getElem?_take]
  split
  · rename_i hj
    obtain ⟨v, hv, e1⟩ := hcs j hj
    rw [List.getElem?_drop, List.getElem?_map, Array.getElem?_toList, List.getElem?_eq_getElem hj, e1]
    have hcell : c[o + j]? = some v := by
      by_cases hj0 : j = 0
      · subst hj0
        simpa [Addr.add, World.cell?, hc] using hv
      · simpa [Addr.add, World.cell?, hc, hj0] using hv
    rw [hcell]; rfl
  · rw [List.getElem?_eq_none (by omega)]

theorem cells_two {W : World} {base n : Nat} {a : Addr} {vs : List Value} (hn : n = 2) (h : W.cells? base a n = some vs) : ∃ v0 v1, vs = [v0, v1] ∧ W.cell? a = some v0 ∧ W.cell? (a.add 1) = some v1 := by
  subst hn
  unfold World.cells? at h
  split at h
  · simp only [List.range_succ, List.range_zero, List.nil_append, List.cons_append, List.mapM_cons, List.mapM_nil, add_zero, Option.pure_def, Option.bind_eq_bind, Option.bind_eq_some_iff, Option.some.injEq] at h
    obtain ⟨v, hv, l, ⟨w, hw, l2, rfl, rfl⟩, rfl⟩ := h
    exact ⟨v, w, rfl, hv, hw⟩
  · cases h

section
variable {P : Program} {W : World} {H : Type} {enc : TypeId × Value → H} {base fuel : Nat} {held : Bool} {t u : TypeId} {x : DataW H × List MemPlace} {f0 f1 : Field} {kd : IntKind}
theorem arg_recs {e e0 e1 : TypeId} {a : Option Addr} {len cap : Nat} (ht : P.underlying t = some (.slice e)) (he : P.underlying e = some (.struct #[f0, f1])) (o0 : f0.offset = 0) (o1 : f1.offset = 1) (t0 : f0.type = e0) (t1 : f1.type = e1) (c0 : P.cellsOf e0 = 1) (c1 : P.cellsOf e1 = 1) (ct : P.cellsOf e = 2)
    (h0 : P.underlying e0 = some (.int kd)) (h1 : P.underlying e1 = some (.slice u)) (hu : P.underlying u = some (.int .u8)) (hcu : P.cellsOf u = 1)
    (hs : ∀ x, a = some x → x.spot = none ∧ ∃ c e f, W.heap[x.block]? = some (.cells c e f)) (h : DataW.trod enc P W base (fun _ => true) held fuel t [.slice a len cap] = some x) :
    ∃ v, VRel (M0 W) v (.slice a len cap) ∧ ∃ fs : List (Int × List UInt8), fs.length ≤ 9223372036854775807 ∧ (∀ f ∈ fs, (Lit.int kd f.1).wf = true) ∧ BR (fun c => [.int kd c]) 2 (rows W) v fs := by
  have mx : maxLen = 9223372036854775807 := by decide
  subst t0 t1
  rcases DataW.trod_slice ht h with ⟨hcs, _⟩ | ⟨b, len', cap', elems, rest, n, _, hcs, rfl, hb, hl, hm, hlen, hel, hsp, _⟩
  · simp at hcs
    obtain ⟨rfl, rfl, rfl⟩ := hcs
    exact ⟨_, .nilSlice, [], by simp, by simp, [], rfl, .inl ⟨rfl, rfl, rfl⟩, fun j f p hf => by simp at hf⟩
  · simp at hcs
    obtain ⟨rfl, rfl, rfl⟩ := hcs
    obtain ⟨hspot, c, e', f, hbc⟩ := hs b rfl
    by_cases hc0 : cap = 0
    · subst hc0
      obtain rfl : len = 0 := by omega
      obtain ⟨bb, o, sp⟩ := b
      simp only at hspot hbc
      subst hspot
      have hM : M0 W bb = some ⟨bb, 0, c.size, 1, false⟩ := by simp only [M0, hbc]
      refine ⟨.slice (some ⟨bb, 0, none⟩) 0 0, ?_, [], by simp, by simp, [], rfl, .inr ⟨bb, 0, 0, c.toList.map (san W bb), e', 1, true, true, rfl, by simp, (M0_some hM).1, by simp only [rows, hbc], .inl rfl, by simp, by simp [rcells]⟩, fun j f p hf => by simp at hf⟩
      have := VRel.slice0 (M := M0 W) bb 0 o 0 _ hM (.inl rfl)
      simpa using this
    · have hall : ∀ j, j < cap → ∃ (z : Int) (w : Value) (y : DataW H × List MemPlace) (m : Nat), W.cell? (b.add (j * 2)) = some (.int kd z) ∧ W.cell? ((b.add (j * 2)).add 1) = some w ∧ (Lit.int kd z).wf = true ∧ DataW.trod enc P W base (fun _ => true) held m f1.type [w] = some y := by
        intro j hj
        have hx : ∃ y, (W.cells? base (b.add (j * P.cellsOf e)) (P.cellsOf e)).bind (DataW.trod enc P W base (fun _ => true) held n e) = some y := by
          by_cases hj2 : j < len
          · exact ⟨_, (hel j hj2).trans (List.getElem?_eq_getElem (by omega))⟩
          · obtain ⟨r1, r2⟩ := hsp rfl
            have := r2 (j - len) (by omega)
            rw [show len + (j - len) = j by omega] at this
            exact ⟨_, this.trans (List.getElem?_eq_getElem (by omega))⟩
        obtain ⟨y, hy⟩ := hx
        rw [ct, Option.bind_eq_some_iff] at hy
        obtain ⟨vs, hvs, hty⟩ := hy
        obtain ⟨v0, v1, rfl, hv0, hv1⟩ := cells_two rfl hvs
        obtain ⟨y0, y1, m, rfl, _, k0, k1⟩ := trod_struct2 he hty
        rw [o0, c0] at k0
        rw [o1, c1] at k1
        simp at k0 k1
        obtain ⟨z, rfl, hw⟩ : ∃ c, v0 = .int kd c ∧ (Lit.int kd c).wf = true := by
          cases m with
          | zero => simp [DataW.trod] at k0
          | succ n =>
            unfold DataW.trod at k0
            rw [h0] at k0
            cases v0 <;> simp at k0
            obtain ⟨⟨rfl, hw⟩, _⟩ := k0
            exact ⟨_, rfl, hw⟩
        exact ⟨z, v1, y1, m, hv0, hv1, hw, k1⟩
      have hex : ∀ j : Fin len, ∃ q : (Int × List UInt8) × (Option Addr × Nat), W.cell? (b.add (j * 2)) = some (.int kd q.1.1) ∧ (Lit.int kd q.1.1).wf = true ∧ (∃ w, W.cell? ((b.add (j * 2)).add 1) = some w ∧ san W b.block w = .slice q.2.1 q.1.2.length q.2.2) ∧ Bytes (rows W) (.slice q.2.1 q.1.2.length q.2.2) q.1.2 := by
        intro j
        obtain ⟨z, w, y, m, q1, q2, q3, q4⟩ := hall j.1 (by have := j.2; omega)
        obtain ⟨aa, cc, bs, e1, e2⟩ := san_bytes h1 hu hcu ⟨c, e', f, hbc⟩ q4
        exact ⟨((z, bs), (aa, cc)), q1, q3, ⟨w, q2, e1⟩, e2⟩
      have hch : ∃ g : Fin len → (Int × List UInt8) × (Option Addr × Nat), ∀ j : Fin len, W.cell? (b.add (j * 2)) = some (.int kd (g j).1.1) ∧ (Lit.int kd (g j).1.1).wf = true ∧ (∃ w, W.cell? ((b.add (j * 2)).add 1) = some w ∧ san W b.block w = .slice (g j).2.1 (g j).1.2.length (g j).2.2) ∧ Bytes (rows W) (.slice (g j).2.1 (g j).1.2.length (g j).2.2) (g j).1.2 :=
        ⟨fun j => Classical.choose (hex j), fun j => Classical.choose_spec (hex j)⟩
      obtain ⟨g, hg⟩ := hch
      refine ⟨_, slice_self hspot hbc hl, List.ofFn fun j => (g j).1, by simp; omega, fun f hf => ?_, List.ofFn fun j => (g j).2, by simp, ?_, fun j f p hf hp => ?_⟩
      · obtain ⟨j, rfl⟩ := (List.mem_ofFn).1 hf
        exact (hg j).2.1
      · have hfl : (List.ofFn fun j => (g j).1).length = len := by simp
        have haf : (List.ofFn fun j => (g j).2).length = (List.ofFn fun j => (g j).1).length := by simp
        have hadd : ∀ n, (b.add n).add 1 = b.add (n + 1) := fun n => by
          obtain ⟨bb, o, sp⟩ := b
          simp only at hspot
          subst hspot
          by_cases hn : n = 0
          · subst hn; simp [Addr.add]
          · simp [Addr.add, hn, Nat.add_assoc]
        obtain ⟨z, w, y, m, _, hlast, _⟩ := hall (cap - 1) (by omega)
        rw [hadd] at hlast
        have hlt := off_lt (cap := cap * 2) hbc (by omega) (by rw [show cap * 2 - 1 = (cap - 1) * 2 + 1 by omega]; exact hlast)
        have hcl : ((rcells (fun c => [.int kd c]) (List.ofFn fun j => (g j).1) (List.ofFn fun j => (g j).2)).flatten).length = len * 2 := by
          rw [flat_length (rcells_all (sz := 2) (fun x => rfl) _), rcells_length haf, hfl]
        rw [hfl]
        refine row_cellsN hspot hbc hl (by omega) _ hcl fun j hj => ?_
        rw [hcl] at hj
        have hj2 : j / 2 < len := by omega
        obtain ⟨q1, _, ⟨w2, q2, q3⟩, _⟩ := hg ⟨j / 2, hj2⟩
        have hget := flat_get (sz := 2) (l := rcells (fun c => [.int kd c]) (List.ofFn fun j => (g j).1) (List.ofFn fun j => (g j).2)) (j := j / 2) (f := j % 2) (rcells_all (sz := 2) (fun x => rfl) _) (by omega)
        rw [show j / 2 * 2 + j % 2 = j by omega, List.getElem?_eq_getElem (by rw [hcl]; exact hj)] at hget
        have hrow : (rcells (fun c => [Value.int kd c]) (List.ofFn fun j => (g j).1) (List.ofFn fun j => (g j).2))[j / 2]? = some [.int kd (g ⟨j / 2, hj2⟩).1.1, .slice (g ⟨j / 2, hj2⟩).2.1 (g ⟨j / 2, hj2⟩).1.2.length (g ⟨j / 2, hj2⟩).2.2] := by
          simp [rcells, rec1, List.getElem?_zipWith, List.getElem?_ofFn, hj2]
        rw [hrow] at hget
        rcases (by omega : j % 2 = 0 ∨ j % 2 = 1) with hr | hr
        · rw [hr] at hget
          refine ⟨_, by rw [show j = j / 2 * 2 by omega]; exact q1, ?_⟩
          rw [san_of (fun _ h => by cases h) (.int _ _)]
          exact Option.some.inj hget
        · rw [hr] at hget
          refine ⟨w2, by rw [show j = j / 2 * 2 + 1 by omega, ← hadd]; exact q2, ?_⟩
          rw [q3]
          exact Option.some.inj hget
      · simp only [List.getElem?_ofFn] at hf hp
        split at hf
        · rename_i hj
          rw [dif_pos hj] at hp
          cases hf; cases hp
          exact (hg ⟨j, hj⟩).2.2.2
        · cases hf
end
end Ab
