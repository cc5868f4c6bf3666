import Derived.Test.YtjlcednpohgamaaAbY2
import Derived.Test.YtjlcednpohgamaaAbRecs
import Derived.WideShapes
namespace Ab
open Go Go.RowKit Go.ChangeShapes Go.WideShapes
set_option autoImplicit false
set_option linter.unusedVariables false
set_option linter.unusedSimpArgs false

/-! ### Records that come in: a number and bytes -/
theorem rec_has {P : Program} {W : World} {base : Nat} {t e0 e1 u : TypeId} {fs : Array Field} {cs : Array Value} (ht : P.underlying t = some (.struct fs)) (hts : P.cellTypes P.depth t = some [e0, e1]) (h1 : P.underlying e1 = some (.slice u))
    (h : Value.okWide P W .any base t (.agg cs)) {a : Option Addr} {len cap : Nat} (hc : cs[1]? = some (.slice a len cap)) : ∀ x, a = some x → x.spot = none ∧ ∃ c e f, W.heap[x.block]? = some (.cells c e f) := by
  simp only [Value.okWide, ht] at h
  obtain ⟨cs', e', _, ts, hts', _, hr⟩ := h
  cases e'
  rw [hts] at hts'
  cases hts'
  obtain ⟨u', hu, ok⟩ := hr 1 _ hc
  simp at hu
  subst hu
  exact okWide_has (t := e1) (e := u) (base := base) h1 (by simp only [Value.okWide, h1]; exact ok)

section
variable {P : Program} {W : World} {H : Type} {enc : TypeId × Value → H} {base base' fuel : Nat} {held : Bool} {t u : TypeId} {v : Value} {x : DataW H × List MemPlace} {f0 f1 : Field} {kd : IntKind}

/-- A slice of bytes that came in, by its type. -/
theorem arg_bytes' {e : TypeId} {a : Option Addr} {len cap : Nat} (ht : P.underlying t = some (.slice e)) (he : P.underlying e = some (.int .u8)) (hc : P.cellsOf e = 1)
    (hs : ∀ x, a = some x → x.spot = none ∧ ∃ c e f, W.heap[x.block]? = some (.cells c e f)) (h : DataW.trod enc P W base (fun _ => true) held fuel t [.slice a len cap] = some x) :
    ∃ a' cap' bs, VRel (M0 W) (.slice a' (List.length bs) cap') (.slice a len cap) ∧ Bytes (rows W) (.slice a' bs.length cap') bs := by
  have key : ∃ v, VRel (M0 W) v (.slice a len cap) ∧ ∃ bs, Bytes (rows W) v bs := by
    rcases open_ints ht he hc h with ⟨hcs, _⟩ | ⟨x, l, c, zs, hcs, _, hl, hm, hz, _, hcell, hwz⟩
    · simp at hcs
      obtain ⟨rfl, rfl, rfl⟩ := hcs
      obtain ⟨v, k, b⟩ := arg_bytes (W := W) (.inl ⟨rfl, rfl, rfl, rfl⟩) hs
      exact ⟨v, k, _, b⟩
    · simp at hcs
      obtain ⟨rfl, rfl, rfl⟩ := hcs
      obtain ⟨v, k, b⟩ := arg_bytes (W := W) (.inr ⟨_, rfl, hl, hm, by simpa using hz, hcell, hwz⟩) hs
      exact ⟨v, k, _, b⟩
  obtain ⟨v, k, bs, b⟩ := key
  obtain ⟨a', cap', rfl⟩ := b.val
  exact ⟨a', cap', bs, k, b⟩

theorem arg_rec {e0 e1 : TypeId} (ht : P.underlying t = some (.struct #[f0, f1])) (o0 : f0.offset = 0) (o1 : f1.offset = 1) (t0 : f0.type = e0) (t1 : f1.type = e1) (c0 : P.cellsOf e0 = 1) (c1 : P.cellsOf e1 = 1) (hts : P.cellTypes P.depth t = some [e0, e1]) (ct : P.cellsOf t = 2)
    (h0 : P.underlying e0 = some (.int kd)) (h1 : P.underlying e1 = some (.slice u)) (hu : P.underlying u = some (.int .u8)) (hcu : P.cellsOf u = 1)
    (hv : Value.okWide P W .any base' t v) (h : DataW.trod enc P W base (fun _ => true) held fuel t v.cells.toList = some x) :
    ∃ c a cap bs, (Lit.int kd c).wf = true ∧ VRel (M0 W) (.agg #[.int kd c, .slice a (List.length bs) cap]) v ∧ Bytes (rows W) (.slice a bs.length cap) bs := by
  obtain ⟨cs, rfl, hcs⟩ := okWide_struct ht hv
  subst t0 t1
  obtain ⟨y0, y1, n, rfl, hl, k0, k1⟩ := trod_struct2 ht h
  rw [o0, c0] at k0
  rw [o1, c1] at k1
  obtain ⟨l⟩ := cs
  simp only [Value.cells] at hl k0 k1
  rw [ct] at hl
  match l, hl with
  | [x0, x1], _ =>
    simp at k0 k1
    obtain ⟨c, rfl, hw⟩ : ∃ c, x0 = .int kd c ∧ (Lit.int kd c).wf = true := by
      cases n with
      | zero => simp [DataW.trod] at k0
      | succ n =>
        unfold DataW.trod at k0
        rw [h0] at k0
        cases x0 <;> simp at k0
        obtain ⟨⟨rfl, hw⟩, _⟩ := k0
        exact ⟨_, rfl, hw⟩
    have hsl : ∃ a len cap, x1 = .slice a len cap := by
      rcases open_ints h1 hu hcu k1 with ⟨hcs, _⟩ | ⟨x, l, c, zs, hcs, _⟩ <;> simp at hcs <;> exact ⟨_, _, _, hcs⟩
    obtain ⟨a, len, cap, rfl⟩ := hsl
    obtain ⟨a', cap', bs, k, b⟩ := arg_bytes' (enc := enc) h1 hu hcu (rec_has ht hts h1 hv (by rfl)) k1
    exact ⟨c, a', cap', bs, hw, VRels.agg (VRels.cons (.int _ _) (VRels.cons k VRels.nil)), b⟩
end
end Ab
