import Derived.Test.YtjjocbijmhmdkaaAbY3
import Derived.OpenShut
namespace Ab
open Go Go.RowKit Go.ChangeShapes Go.WideShapes
set_option autoImplicit false
set_option linter.unusedVariables false
set_option linter.unusedSimpArgs false

/-! ### What comes in, whatever its type -/
inductive Dt where
  | b (v : Bool)
  | i (k : IntKind) (n : Int)
  | s (bs : List UInt8)
  | rc (ds : List Dt)
  | arr (ds : List Dt)
  | sl (ds : List Dt)

/-- Cells of a type that read as data. -/
inductive Has (P : Program) (h : AHeap) : Dt → TypeId → List Value → Prop
  | b (v : Bool) (t : TypeId) : P.underlying t = some .bool → Has P h (.b v) t [.bool v]
  | i (k : IntKind) (n : Int) (t : TypeId) : P.underlying t = some (.int k) → (Lit.int k n).wf = true → Has P h (.i k n) t [.int k n]
  | s (bs : List UInt8) (t : TypeId) : P.underlying t = some .string → bs.length ≤ 9223372036854775807 → Has P h (.s bs) t [.string ⟨bs.toArray⟩]
  | rc (ds : List Dt) (fs : Array Field) (t : TypeId) (cs : List Value) : P.underlying t = some (.struct fs) → cs.length = P.cellsOf t → ds.length = fs.size →
      (∀ (j : Nat) (d : Dt) (f : Field), ds[j]? = some d → fs[j]? = some f → Has P h d f.type ((cs.drop f.offset).take (P.cellsOf f.type))) → Has P h (.rc ds) t cs
  | arr (ds : List Dt) (n : Nat) (e t : TypeId) (cs : List Value) : P.underlying t = some (.array n e) → cs.length = P.cellsOf t → ds.length = n →
      (∀ (j : Nat) (d : Dt), ds[j]? = some d → Has P h d e ((cs.drop (j * P.cellsOf e)).take (P.cellsOf e))) → Has P h (.arr ds) t cs
  | sl (ds : List Dt) (e t : TypeId) (v : Value) (rs : List (List Value)) : P.underlying t = some (.slice e) → ds.length ≤ 9223372036854775807 → rs.length = ds.length → Sl (P.cellsOf e) h v ds.length rs.flatten →
      (∀ r ∈ rs, r.length = P.cellsOf e) → (∀ (j : Nat) (d : Dt) (r : List Value), ds[j]? = some d → rs[j]? = some r → Has P h d e r) → Has P h (.sl ds) t [v]

/-- A type of data. -/
def dataT (P : Program) : Nat → TypeId → Bool
  | 0, _ => false
  | n + 1, t => match P.underlying t with
    | some .bool | some (.int _) | some .string => true
    | some (.struct fs) => fs.toList.all fun f => dataT P n f.type
    | some (.array _ e) => dataT P n e
    | some (.slice e) => decide (0 < P.cellsOf e) && dataT P n e
    | _ => false

theorem cells_get {W : World} {base n : Nat} {a : Addr} {vs : List Value} (h : W.cells? base a n = some vs) : vs.length = n ∧ ∀ i, i < n → W.cell? (a.add i) = vs[i]? := by
  unfold World.cells? at h
  split at h
  · exact ⟨by simpa using mapM_some_length h, fun i hi => mapM_some_get h i i (by simp [hi])⟩
  · cases h

theorem add_add {b : Addr} (hs : b.spot = none) (n m : Nat) : (b.add n).add m = b.add (n + m) := by
  obtain ⟨bb, o, sp⟩ := b
  simp only at hs
  subst hs
  by_cases hn : n = 0
  · subst hn; simp [Addr.add]
  · by_cases hm : m = 0
    · subst hm; simp [Addr.add]
    · simp [Addr.add, hn, hm, Nat.add_assoc]

theorem ex_list {α : Type} {n : Nat} {p : Nat → α → Prop} (h : ∀ j, j < n → ∃ x, p j x) : ∃ l : List α, l.length = n ∧ ∀ (j : Nat) (x : α), l[j]? = some x → p j x := by
  refine ⟨List.ofFn fun j : Fin n => Classical.choose (h j.1 j.2), by simp, fun j x hx => ?_⟩
  simp only [List.getElem?_ofFn] at hx
  split at hx
  · rename_i hj
    obtain rfl := Option.some.inj hx
    exact Classical.choose_spec (h j hj)
  · cases hx

theorem san_flat {W : World} {k : Nat} {v : Value} (h : ∀ a, v ≠ .slice (some a) 0 0) (hr : VRel (M0 W) v v) : san W k v = v := san_of h hr

theorem has_of_trod {P : Program} {W : World} {H : Type} {enc : TypeId × Value → H} {base : Nat} {held : Bool} : ∀ (n fuel : Nat) (t : TypeId) (cs : List Value) (x : DataW H × List MemPlace) (k : Nat), dataT P n t = true →
    ((∃ a, Value.slice (some a) 0 0 ∈ cs) → ∃ c e f, W.heap[k]? = some (.cells c e f)) → DataW.trod enc P W base (fun _ => true) held fuel t cs = some x → ∃ d, Has P (rows W) d t (cs.map (san W k))
  | 0, _, _, _, _, _, h, _, _ => by simp [dataT] at h
  | n + 1, fuel, t, cs, x, k, hd, hk, h => by
    have mx : maxLen = 9223372036854775807 := by decide
    unfold dataT at hd
    split at hd
    · rename_i ht
      obtain ⟨b, rfl, _⟩ := DataW.trod_bool ht h
      refine ⟨.b b, ?_⟩
      rw [List.map_cons, List.map_nil, san_of (fun _ h => by cases h) (.bool _)]
      exact .b b t ht
    · rename_i kd ht
      obtain ⟨z, rfl, _, hw⟩ := DataW.trod_int ht h
      refine ⟨.i kd z, ?_⟩
      rw [List.map_cons, List.map_nil, san_of (fun _ h => by cases h) (.int _ _)]
      exact .i kd z t ht hw
    · rename_i ht
      obtain ⟨s, rfl, _, hw⟩ := DataW.trod_string ht h
      refine ⟨.s s.data.toList, ?_⟩
      rw [List.map_cons, List.map_nil, san_of (fun _ h => by cases h) (.string _)]
      exact .s s.data.toList t ht (by rw [mx] at hw; simpa using hw)
    · rename_i fs ht
      obtain ⟨xs, m, _, _, hl, hlen, hf⟩ := DataW.trod_struct ht h
      rw [List.all_eq_true] at hd
      have hex : ∀ j, j < fs.size → ∃ d, ∀ f, fs[j]? = some f → Has P (rows W) d f.type (((cs.map (san W k)).drop f.offset).take (P.cellsOf f.type)) := by
        intro j hj
        have hfj : fs[j]? = some fs[j] := Array.getElem?_eq_getElem hj
        have h1 := hf j _ hfj
        rw [List.getElem?_eq_getElem (by omega)] at h1
        obtain ⟨d, hd'⟩ := has_of_trod n m _ _ _ k (hd fs[j] (by simp)) (fun ⟨a, ha⟩ => hk ⟨a, List.mem_of_mem_drop (List.mem_of_mem_take ha)⟩) h1
        refine ⟨d, fun f hf2 => ?_⟩
        rw [hfj] at hf2
        obtain rfl := Option.some.inj hf2
        rw [← List.map_drop, ← List.map_take]; exact hd'
      obtain ⟨ds, h1, h2⟩ := ex_list hex
      exact ⟨.rc ds, .rc ds fs t _ ht (by simpa using hl) h1 fun j d f hdj hfj => h2 j d hdj f hfj⟩
    · rename_i len e ht
      obtain ⟨xs, m, _, _, hl, hlen, hf⟩ := DataW.trod_array ht h
      have hex : ∀ j, j < len → ∃ d, Has P (rows W) d e (((cs.map (san W k)).drop (j * P.cellsOf e)).take (P.cellsOf e)) := by
        intro j hj
        have h1 := hf j hj
        rw [List.getElem?_eq_getElem (by omega)] at h1
        obtain ⟨d, hd'⟩ := has_of_trod n m _ _ _ k hd (fun ⟨a, ha⟩ => hk ⟨a, List.mem_of_mem_drop (List.mem_of_mem_take ha)⟩) h1
        exact ⟨d, by rw [← List.map_drop, ← List.map_take]; exact hd'⟩
      obtain ⟨ds, h1, h2⟩ := ex_list hex
      exact ⟨.arr ds, .arr ds len e t _ ht (by simpa using hl) h1 fun j d hdj => h2 j d hdj⟩
    · rename_i e ht
      rw [Bool.and_eq_true, decide_eq_true_eq] at hd
      obtain ⟨h0, hd⟩ := hd
      rcases DataW.trod_slice ht h with ⟨rfl, _⟩ | ⟨b, len, cap, elems, rest, m, _, rfl, _, hb, hl, hm, hlen, hel, hsp, _⟩
      · refine ⟨.sl [], ?_⟩
        rw [List.map_cons, List.map_nil, san_of (fun _ h => by cases h) .nilSlice]
        exact .sl [] e t _ [] ht (by simp) rfl (.inl ⟨rfl, rfl, rfl⟩) (by simp) fun j d r hj => by simp at hj
      · by_cases hc0 : cap = 0
        · subst hc0
          obtain rfl : len = 0 := by omega
          obtain ⟨c, e', f, hkc⟩ := hk ⟨b, by simp⟩
          have hM : M0 W k = some ⟨k, 0, c.size, 1, false⟩ := by simp only [M0, hkc]
          refine ⟨.sl [], ?_⟩
          have hs : san W k (.slice (some b) 0 0) = .slice (some ⟨k, 0, none⟩) 0 0 := by simp [san, hM]
          rw [List.map_cons, List.map_nil, hs]
          exact .sl [] e t _ [] ht (by simp) rfl (.inr ⟨k, 0, 0, c.toList.map (san W k), e', 1, true, true, rfl, by simp, (M0_some hM).1, by simp only [rows, hkc], .inl rfl, by simp, by simp⟩) (by simp) fun j d r hj => by simp at hj
        · have hall : ∀ j, j < cap → ∃ vs y, W.cells? base (b.add (j * P.cellsOf e)) (P.cellsOf e) = some vs ∧ DataW.trod enc P W base (fun _ => true) held m e vs = some y := by
            intro j hj
            have hx : ∃ y, (W.cells? base (b.add (j * P.cellsOf e)) (P.cellsOf e)).bind (DataW.trod enc P W base (fun _ => true) held m e) = some y := by
              by_cases hj2 : j < len
              · exact ⟨_, (hel j hj2).trans (List.getElem?_eq_getElem (by omega))⟩
              · obtain ⟨r1, r2⟩ := hsp rfl
                have := r2 (j - len) (by omega)
                rw [show len + (j - len) = j by omega] at this
                exact ⟨_, this.trans (List.getElem?_eq_getElem (by omega))⟩
            obtain ⟨y, hy⟩ := hx
            rw [Option.bind_eq_some_iff] at hy
            obtain ⟨vs, hvs, hty⟩ := hy
            exact ⟨vs, y, hvs, hty⟩
          obtain ⟨v0, _, hv0, _⟩ := hall 0 (by omega)
          have hc := (cells_get hv0).2 0 h0
          have hvl := (cells_get hv0).1
          rw [List.getElem?_eq_getElem (by omega), Nat.zero_mul] at hc
          have hc' : W.cell? b = some v0[0] := by
            have e1 : (b.add 0).add 0 = b := by simp [Addr.add]
            rw [e1] at hc; exact hc
          obtain ⟨hspot, c, e', f, hbc, _⟩ := cell_has hc'
          have hex : ∀ j, j < len → ∃ q : Dt × List Value, q.2.length = P.cellsOf e ∧ (∀ i, i < P.cellsOf e → ∃ v, W.cell? (b.add (j * P.cellsOf e + i)) = some v ∧ q.2[i]? = some (san W b.block v)) ∧ Has P (rows W) q.1 e q.2 := by
            intro j hj
            obtain ⟨vs, y, hvs, hy⟩ := hall j (by omega)
            obtain ⟨g1, g2⟩ := cells_get hvs
            obtain ⟨d, hd'⟩ := has_of_trod n m e vs y b.block hd (fun _ => ⟨c, e', f, hbc⟩) hy
            refine ⟨(d, vs.map (san W b.block)), by simpa using g1, fun i hi => ?_, hd'⟩
            have := g2 i hi
            rw [add_add hspot, List.getElem?_eq_getElem (by omega)] at this
            exact ⟨_, this, by simp [show i < vs.length by omega]⟩
          obtain ⟨qs, hq1, hq2⟩ := ex_list hex
          refine ⟨.sl (qs.map (·.1)), ?_⟩
          have hs : san W k (.slice (some b) len cap) = .slice (some b) len cap := san_of (fun y hy => by cases hy; exact hc0 rfl) (slice_self hspot hbc hl)
          rw [List.map_cons, List.map_nil, hs]
          have hall2 : ∀ r ∈ qs.map (·.2), r.length = P.cellsOf e := by
            intro r hr
            obtain ⟨q, hq, rfl⟩ := List.mem_map.1 hr
            obtain ⟨j, hj⟩ := List.mem_iff_getElem?.1 hq
            exact (hq2 j q hj).1
          refine .sl _ e t _ (qs.map (·.2)) ht (by simp; omega) (by simp) ?_ hall2 fun j d r hdj hrj => ?_
          · rw [List.length_map, hq1]
            have hfl : (qs.map (·.2)).flatten.length = len * P.cellsOf e := by rw [flat_length hall2, List.length_map, hq1]
            obtain ⟨vl, _, hvl2, _⟩ := hall (cap - 1) (by omega)
            obtain ⟨gl1, gl2⟩ := cells_get hvl2
            have hlast := gl2 (P.cellsOf e - 1) (by omega)
            rw [add_add hspot, List.getElem?_eq_getElem (by omega)] at hlast
            have hpos : 0 < cap * P.cellsOf e := Nat.mul_pos (by omega) h0
            have heq : (cap - 1) * P.cellsOf e + (P.cellsOf e - 1) = cap * P.cellsOf e - 1 := by
              have : cap * P.cellsOf e = (cap - 1) * P.cellsOf e + P.cellsOf e := by
                rw [← Nat.succ_mul]; congr 1; omega
              omega
            rw [heq] at hlast
            have hlt := off_lt hbc hpos hlast
            have hmul := Nat.mul_le_mul_right (P.cellsOf e) hl
            refine row_cellsN hspot hbc hl (by omega) _ hfl fun j hj => ?_
            rw [hfl] at hj
            have hj2 : j / P.cellsOf e < len := Nat.div_lt_of_lt_mul (by rw [Nat.mul_comm]; exact hj)
            have hjm : j % P.cellsOf e < P.cellsOf e := Nat.mod_lt _ h0
            have hdm : j / P.cellsOf e * P.cellsOf e + j % P.cellsOf e = j := by rw [Nat.mul_comm]; exact Nat.div_add_mod _ _
            have hqj : qs[j / P.cellsOf e]? = some (qs[j / P.cellsOf e]'(by omega)) := List.getElem?_eq_getElem (by omega)
            obtain ⟨_, g2, _⟩ := hq2 _ _ hqj
            obtain ⟨v, g3, g4⟩ := g2 _ hjm
            rw [hdm] at g3
            refine ⟨v, g3, ?_⟩
            have hget := flat_get (l := qs.map (·.2)) (j := j / P.cellsOf e) (f := j % P.cellsOf e) hall2 hjm
            rw [hdm, List.getElem?_eq_getElem (by rw [hfl]; exact hj), List.getElem?_map, hqj] at hget
            simp only [Option.map_some, Option.bind_some] at hget
            rw [g4] at hget
            exact Option.some.inj hget
          · rw [List.getElem?_map] at hdj hrj
            cases hqj : qs[j]? with
            | none => rw [hqj] at hdj; cases hdj
            | some q =>
              rw [hqj] at hdj hrj
              cases hdj; cases hrj
              exact (hq2 j q hqj).2.2
    · cases hd

/-- A slice that came in. -/
theorem arg_has_slice {P : Program} {W : World} {H : Type} {enc : TypeId × Value → H} {base base' fuel : Nat} {held : Bool} (n : Nat) {t e : TypeId} {a : Option Addr} {len cap : Nat} {x : DataW H × List MemPlace} (hd : dataT P n t = true) (ht : P.underlying t = some (.slice e))
    (ok : Value.okWide P W .any base' t (.slice a len cap)) (h : DataW.trod enc P W base (fun _ => true) held fuel t (Value.slice a len cap).cells.toList = some x) :
    ∃ v' d, VRel (M0 W) v' (.slice a len cap) ∧ Has P (rows W) d t [v'] := by
  have hs := okWide_has ht ok
  have e : (Value.slice a len cap).cells.toList = [.slice a len cap] := rfl
  rw [e] at h
  obtain ⟨k, hk⟩ : ∃ k : Nat, (∃ b, Value.slice (some b) 0 0 ∈ [Value.slice a len cap]) → ∃ (c : Array Value) (e' : TypeId) (f : Nat × Nat), W.heap[k]? = some (Obj.cells c e' f) := by
    cases a with
    | none => exact ⟨0, fun ⟨b, hb⟩ => by simp at hb⟩
    | some b => exact ⟨b.block, fun _ => (hs b rfl).2⟩
  obtain ⟨d, hd'⟩ := has_of_trod n fuel t _ x k hd hk h
  exact ⟨san W k (.slice a len cap), d, san_rel _ _ _, hd'⟩

/-- A struct or an array that came in. -/
theorem arg_has_agg {P : Program} {W : World} {H : Type} {enc : TypeId × Value → H} {base base' fuel : Nat} {held : Bool} (n : Nat) {t : TypeId} {v : Value} {x : DataW H × List MemPlace} (hd : dataT P n t = true) (ht : (match P.underlying t with | some (.array _ _) | some (.struct _) => true | _ => false) = true)
    (ok : Value.okWide P W .any base' t v) (h : DataW.trod enc P W base (fun _ => true) held fuel t v.cells.toList = some x) :
    ∃ cs' d, VRel (M0 W) (.agg cs') v ∧ Has P (rows W) d t cs'.toList := by
  obtain ⟨cs, rfl, hr⟩ : ∃ cs, v = .agg cs ∧ Row.okWide P W .any base' t cs := by
    unfold Value.okWide at ok
    split at ok
    · obtain ⟨cs, h1, _, h2⟩ := ok; exact ⟨cs, h1, h2⟩
    · obtain ⟨cs, h1, _, h2⟩ := ok; exact ⟨cs, h1, h2⟩
    · rename_i h1 h2
      split at ht
      · rename_i hu; exact absurd hu (h2 _ _)
      · rename_i hu; exact absurd hu (h1 _)
      · cases ht
  have hk : ∃ k : Nat, (∃ b, Value.slice (some b) 0 0 ∈ cs.toList) → ∃ (c : Array Value) (e' : TypeId) (f : Nat × Nat), W.heap[k]? = some (Obj.cells c e' f) := by
    by_cases hb : ∃ b, Value.slice (some b) 0 0 ∈ cs.toList
    · obtain ⟨b, hb⟩ := hb
      obtain ⟨i, hi⟩ := List.mem_iff_getElem?.1 hb
      obtain ⟨ts, _, _, hall⟩ := hr
      obtain ⟨u, _, hu⟩ := hall i _ (by simpa using hi)
      refine ⟨b.block, fun _ => ?_⟩
      have : Value.okWide P W .any base' u (.slice (some b) 0 0) ∧ ∃ e, P.underlying u = some (.slice e) := by
        unfold Cell.okWide at hu
        split at hu <;> first | (rename_i hh; cases hh; done) | skip
        cases hp : P.underlying u with
        | none => simp [Cell.ok, hp] at hu
        | some d =>
          cases d <;> first
            | (simp [Cell.ok, hp] at hu; done)
            | exact ⟨by simp only [Value.okWide, hp, Cell.okWide]; exact hu, _, rfl⟩
      obtain ⟨h1, e, h2⟩ := this
      exact (okWide_has h2 h1 b rfl).2
    · exact ⟨0, fun h => absurd h hb⟩
  obtain ⟨k, hk⟩ := hk
  obtain ⟨d, hd'⟩ := has_of_trod n fuel t _ x k hd hk h
  refine ⟨cs.map (san W k), d, ?_, by simpa [Value.cells] using hd'⟩
  exact VRels.agg ⟨by simp, fun j a b => by simpa using san_rel W k _⟩

/-! ### What such data are -/
section
variable {P : Program} {h : AHeap} {d : Dt} {t : TypeId} {cs : List Value}
theorem Has.bool_inv (ht : P.underlying t = some .bool) (q : Has P h d t cs) : ∃ b, cs = [.bool b] := by
  cases q with
  | b v t h1 => exact ⟨v, rfl⟩
  | i k' n t h1 => rw [ht] at h1; cases h1
  | s bs t h1 => rw [ht] at h1; cases h1
  | rc ds fs t cs h1 => rw [ht] at h1; cases h1
  | arr ds n e t cs h1 => rw [ht] at h1; cases h1
  | sl ds e t v rs h1 => rw [ht] at h1; cases h1
theorem Has.int_inv {k : IntKind} (ht : P.underlying t = some (.int k)) (q : Has P h d t cs) : ∃ n, cs = [.int k n] ∧ (Lit.int k n).wf = true := by
  cases q with
  | i k' n t h1 h2 => rw [ht] at h1; cases h1; exact ⟨n, rfl, h2⟩
  | b v t h1 => rw [ht] at h1; cases h1
  | s bs t h1 => rw [ht] at h1; cases h1
  | rc ds fs t cs h1 => rw [ht] at h1; cases h1
  | arr ds n e t cs h1 => rw [ht] at h1; cases h1
  | sl ds e t v rs h1 => rw [ht] at h1; cases h1
theorem Has.str_inv (ht : P.underlying t = some .string) (q : Has P h d t cs) : ∃ bs : List UInt8, cs = [.string ⟨bs.toArray⟩] ∧ bs.length ≤ 9223372036854775807 := by
  cases q with
  | s bs t h1 h2 => exact ⟨bs, rfl, h2⟩
  | b v t h1 => rw [ht] at h1; cases h1
  | i k' n t h1 => rw [ht] at h1; cases h1
  | rc ds fs t cs h1 => rw [ht] at h1; cases h1
  | arr ds n e t cs h1 => rw [ht] at h1; cases h1
  | sl ds e t v rs h1 => rw [ht] at h1; cases h1
theorem Has.struct_inv {fs : Array Field} (ht : P.underlying t = some (.struct fs)) (q : Has P h d t cs) : cs.length = P.cellsOf t ∧ ∀ (j : Nat) (f : Field), fs[j]? = some f → ∃ d, Has P h d f.type ((cs.drop f.offset).take (P.cellsOf f.type)) := by
  cases q with
  | rc ds fs' t cs h1 h2 h3 h4 =>
    rw [ht] at h1; cases h1
    refine ⟨h2, fun j f hf => ?_⟩
    have hj := (Array.getElem?_eq_some_iff.1 hf).1
    exact ⟨_, h4 j _ f (List.getElem?_eq_getElem (by omega)) hf⟩
  | b v t h1 => rw [ht] at h1; cases h1
  | i k n t h1 => rw [ht] at h1; cases h1
  | s bs t h1 => rw [ht] at h1; cases h1
  | arr ds n e t cs h1 => rw [ht] at h1; cases h1
  | sl ds e t v rs h1 => rw [ht] at h1; cases h1
theorem Has.struct_at {fs : Array Field} (ht : P.underlying t = some (.struct fs)) (q : Has P h d t cs) : cs.length = P.cellsOf t ∧ ∀ (j ty off n : Nat), (fs[j]?).map (fun f => (f.type, f.offset)) = some (ty, off) → P.cellsOf ty = n → ∃ d, Has P h d ty ((cs.drop off).take n) := by
  obtain ⟨h1, h2⟩ := q.struct_inv ht
  refine ⟨h1, fun j ty off n e hn => ?_⟩
  rw [Option.map_eq_some_iff] at e
  obtain ⟨f, hf, e⟩ := e
  cases e
  subst hn
  exact h2 j f hf
theorem Has.arr_inv {n : Nat} {e : TypeId} (ht : P.underlying t = some (.array n e)) (q : Has P h d t cs) : cs.length = P.cellsOf t ∧ ∀ j, j < n → ∃ d, Has P h d e ((cs.drop (j * P.cellsOf e)).take (P.cellsOf e)) := by
  cases q with
  | arr ds n e t cs h1 h2 h3 h4 =>
    rw [ht] at h1; cases h1
    exact ⟨h2, fun j hj => ⟨_, h4 j _ (List.getElem?_eq_getElem (by omega))⟩⟩
  | b v t h1 => rw [ht] at h1; cases h1
  | i k n t h1 => rw [ht] at h1; cases h1
  | s bs t h1 => rw [ht] at h1; cases h1
  | rc ds fs t cs h1 => rw [ht] at h1; cases h1
  | sl ds e t v rs h1 => rw [ht] at h1; cases h1
theorem Has.sl_inv {e : TypeId} (ht : P.underlying t = some (.slice e)) (q : Has P h d t cs) : ∃ v rs, cs = [v] ∧ List.length rs ≤ 9223372036854775807 ∧ Sl (P.cellsOf e) h v rs.length rs.flatten ∧ ∀ r ∈ rs, r.length = P.cellsOf e ∧ ∃ d, Has P h d e r := by
  cases q with
  | sl ds e t v rs h1 h2 h3 h4 h5 h6 =>
    rw [ht] at h1; cases h1
    refine ⟨v, rs, rfl, by omega, by rw [h3]; exact h4, fun r hr => ⟨h5 r hr, ?_⟩⟩
    obtain ⟨j, hj⟩ := List.mem_iff_getElem?.1 hr
    have := (List.getElem?_eq_some_iff.1 hj).1
    exact ⟨_, h6 j _ r (List.getElem?_eq_getElem (by omega)) hj⟩
  | b v t h1 => rw [ht] at h1; cases h1
  | i k n t h1 => rw [ht] at h1; cases h1
  | s bs t h1 => rw [ht] at h1; cases h1
  | rc ds fs t cs h1 => rw [ht] at h1; cases h1
  | arr ds n e t cs h1 => rw [ht] at h1; cases h1
/-- An array of bytes. -/
theorem Has.u8s {n : Nat} {e : TypeId} (ht : P.underlying t = some (.array n e)) (he : P.underlying e = some (.int .u8)) (ce : P.cellsOf e = 1) (ct : P.cellsOf t = n) (q : Has P h d t cs) : ∃ bs : List UInt8, cs = bs.map B ∧ bs.length = n := by
  obtain ⟨h1, h2⟩ := q.arr_inv ht
  rw [ct] at h1
  have hex : ∀ j, j < n → ∃ b : UInt8, cs[j]? = some (B b) := fun j hj => by
    obtain ⟨d, k⟩ := h2 j hj
    rw [ce, Nat.mul_one] at k
    obtain ⟨z, hz, hw⟩ := k.int_inv he
    simp only [Lit.wf, IntKind.min, IntKind.max, IntKind.signed, IntKind.bits, Bool.and_eq_true, decide_eq_true_eq] at hw
    simp at hw
    refine ⟨UInt8.ofNat z.toNat, ?_⟩
    have : cs[j]? = some (.int .u8 z) := by
      have h3 := congrArg (·[0]?) hz
      simp only [List.getElem?_take, List.getElem?_drop] at h3
      simpa using h3
    rw [this]
    simp only [B, UInt8.toNat_ofNat', Option.some.injEq, Value.int.injEq, true_and]
    omega
  obtain ⟨bs, h3, h4⟩ := ex_list hex
  refine ⟨bs, ?_, h3⟩
  apply List.ext_getElem?
  intro j
  rw [List.getElem?_map]
  cases hb : bs[j]? with
  | none =>
    have : bs.length ≤ j := List.getElem?_eq_none_iff.1 hb
    rw [List.getElem?_eq_none (by omega)]; rfl
  | some b => exact h4 j b hb
/-- A list of such data, each told. -/
theorem map_of {α β : Type} {f : α → β} {p : α → Prop} : ∀ {rs : List β}, (∀ r ∈ rs, ∃ x, r = f x ∧ p x) → ∃ l : List α, rs = l.map f ∧ ∀ x ∈ l, p x
  | [], _ => ⟨[], rfl, fun x hx => by cases hx⟩
  | r :: rs, h => by
    obtain ⟨x, hx, px⟩ := h r (by simp)
    obtain ⟨l, hl, pl⟩ := map_of (f := f) (p := p) (rs := rs) fun r hr => h r (by simp [hr])
    exact ⟨x :: l, by rw [hx, hl]; rfl, fun y hy => by rcases List.mem_cons.1 hy with rfl | hy; exact px; exact pl y hy⟩
end
end Ab
