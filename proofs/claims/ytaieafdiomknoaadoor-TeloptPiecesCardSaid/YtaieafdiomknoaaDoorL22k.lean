import Derived.Test.YtaieafdiomknoaaDoorL22j
open Go Ab Go.Proofs
namespace L22
set_option autoImplicit false
set_option linter.unusedSimpArgs false
set_option linter.unusedVariables false

/-! ### What was put into bytes is read back -/
theorem esc_cons (c : UInt8) (l : List UInt8) : esc (c :: l) = (if c = 255 then [255, 255] else [c]) ++ esc l := by simp [esc]
theorem feedL_cons {s : Rd} (h : s.br = 0) (c : UInt8) (l : List UInt8) : feedL s (c :: l) = feedL (takeR s c) l := by rw [feedL, if_pos h]
theorem feedL_append : ∀ (a : List UInt8) (s : Rd) (b : List UInt8), feedL s (a ++ b) = feedL (feedL s a) b
  | [], s, b => rfl
  | c :: a, s, b => by
    by_cases h : s.br = 0
    · rw [List.cons_append, feedL_cons h, feedL_cons h, feedL_append a]
    · rw [feedL_stop h, feedL_stop h, feedL_stop h]

/-- Data behind data. -/
theorem feedL_data (pk pv po : Int) (pd : List UInt8) : ∀ (bs acc : List UInt8) (l : List Tl), feedL ⟨0, pk, pv, po, pd, l ++ [((1, 0, 0), acc)], 0⟩ (esc bs) = ⟨0, pk, pv, po, pd, l ++ [((1, 0, 0), acc ++ bs)], 0⟩
  | [], acc, l => by simp [esc, feedL]
  | c :: bs, acc, l => by
    have ih := feedL_data pk pv po pd bs (acc ++ [c]) l
    rw [List.append_assoc, List.singleton_append] at ih
    have hd : addData (l ++ [((1, 0, 0), acc)]) c = l ++ [((1, 0, 0), acc ++ [c])] := by rw [addData_append]; simp
    rw [esc_cons]
    by_cases hc : c = 255
    · rw [if_pos hc, List.cons_append, feedL_cons rfl, List.singleton_append, feedL_cons rfl]
      have e1 : takeR ⟨0, pk, pv, po, pd, l ++ [((1, 0, 0), acc)], 0⟩ 255 = ⟨1, pk, pv, po, pd, l ++ [((1, 0, 0), acc)], 0⟩ := by simp [takeR]
      have e2 : takeR ⟨1, pk, pv, po, pd, l ++ [((1, 0, 0), acc)], 0⟩ 255 = ⟨0, pk, pv, po, pd, l ++ [((1, 0, 0), acc ++ [c])], 0⟩ := by
        rw [hc] at hd ⊢
        simp [takeR, commandR, dataR, hd]
      rw [e1, e2, ih]
    · rw [if_neg hc, List.singleton_append, feedL_cons rfl]
      have e1 : takeR ⟨0, pk, pv, po, pd, l ++ [((1, 0, 0), acc)], 0⟩ c = ⟨0, pk, pv, po, pd, l ++ [((1, 0, 0), acc ++ [c])], 0⟩ := by simp [takeR, hc, dataR, hd]
      rw [e1, ih]
theorem feedL_data0 (pk pv po : Int) (pd : List UInt8) (bs : List UInt8) (h : bs ≠ []) : feedL ⟨0, pk, pv, po, pd, [], 0⟩ (esc bs) = ⟨0, pk, pv, po, pd, [((1, 0, 0), bs)], 0⟩ := by
  rcases bs with _ | ⟨c, bs⟩
  · exact absurd rfl h
  have ih := feedL_data pk pv po pd bs [c] []
  simp only [List.nil_append, List.singleton_append] at ih
  rw [esc_cons]
  by_cases hc : c = 255
  · rw [if_pos hc, List.cons_append, feedL_cons rfl, List.singleton_append, feedL_cons rfl]
    have e1 : takeR ⟨0, pk, pv, po, pd, [], 0⟩ 255 = ⟨1, pk, pv, po, pd, [], 0⟩ := by simp [takeR]
    have e2 : takeR ⟨1, pk, pv, po, pd, [], 0⟩ 255 = ⟨0, pk, pv, po, pd, [((1, 0, 0), [c])], 0⟩ := by simp [takeR, commandR, dataR, addData, hc]
    rw [e1, e2, ih]
  · rw [if_neg hc, List.singleton_append, feedL_cons rfl]
    have e1 : takeR ⟨0, pk, pv, po, pd, [], 0⟩ c = ⟨0, pk, pv, po, pd, [((1, 0, 0), [c])], 0⟩ := by simp [takeR, dataR, addData, hc]
    rw [e1, ih]
/-- A part's data. -/
theorem feedL_sub (pk pv po : Int) (out : List Tl) : ∀ (bs pd : List UInt8), pd.length + bs.length ≤ 3000 → feedL ⟨4, pk, pv, po, pd, out, 0⟩ (esc bs) = ⟨4, pk, pv, po, pd ++ bs, out, 0⟩
  | [], pd, _ => by simp [esc, feedL]
  | c :: bs, pd, h => by
    simp only [List.length_cons] at h
    have ih := feedL_sub pk pv po out bs (pd ++ [c]) (by simp; omega)
    rw [List.append_assoc, List.singleton_append] at ih
    have hl : ¬ 3000 ≤ pd.length := by omega
    rw [esc_cons]
    by_cases hc : c = 255
    · rw [if_pos hc, List.cons_append, feedL_cons rfl, List.singleton_append, feedL_cons rfl]
      have e1 : takeR ⟨4, pk, pv, po, pd, out, 0⟩ 255 = ⟨5, pk, pv, po, pd, out, 0⟩ := by simp [takeR]
      have e2 : takeR ⟨5, pk, pv, po, pd, out, 0⟩ 255 = ⟨4, pk, pv, po, pd ++ [c], out, 0⟩ := by simp [takeR, moreR, hl, hc]
      rw [e1, e2, ih]
    · rw [if_neg hc, List.singleton_append, feedL_cons rfl]
      have e1 : takeR ⟨4, pk, pv, po, pd, out, 0⟩ c = ⟨4, pk, pv, po, pd ++ [c], out, 0⟩ := by simp [takeR, hc, moreR, hl]
      rw [e1, ih]

/-- What is read back. -/
def back (k v o : Int) (bs : List UInt8) : List Tl := if k = 2 then [((2, v, o), [])] else if k = 3 then [((3, 0, o), bs)] else if bs = [] then [] else [((1, 0, 0), bs)]
theorem feed_wr {k v o : Int} {bs : List UInt8} (h : right k v o bs.length = 0) : (feedR rd0 (wr k v o bs)).br = 0 ∧ (feedR rd0 (wr k v o bs)).out = back k v o bs := by
  have e : wr k v o bs = wbytes k v o bs := by simp [wr, h]
  rw [e]
  have key : ∀ S : Rd, feedL rd0 (wbytes k v o bs) = S → S.br = 0 → (feedR rd0 (wbytes k v o bs)).br = 0 ∧ (feedR rd0 (wbytes k v o bs)).out = S.out := by
    intro S hS hb
    have : feedR rd0 (wbytes k v o bs) = S := by
      unfold feedR
      rw [show clr rd0 = rd0 from rfl, hS, if_pos hb]
    rw [this]; exact ⟨hb, rfl⟩
  rcases right_zero h with ⟨rfl, ho1, ho2, hv1, hv2⟩ | ⟨rfl, ho1, ho2, hn⟩ | ⟨rfl, hn⟩
  · obtain ⟨x, rfl⟩ := byte_of (z := o) ho1 ho2
    obtain ⟨y, rfl⟩ := byte_of (z := v) (by omega) (by omega)
    have e2 : wbytes 2 y.toNat x.toNat bs = [255, y, x] := by simp [wbytes]
    have hy : (251 : UInt8) ≤ y := by rw [UInt8.le_iff_toNat_le]; show 251 ≤ _; omega
    have hy2 : ¬ y = 255 := by rintro rfl; simp at hv2
    have hs : feedL rd0 [255, y, x] = ⟨0, 0, 0, 0, [], [((2, y.toNat, x.toNat), [])], 0⟩ := by
      rw [feedL_cons rfl]
      have e1 : takeR rd0 255 = ⟨1, 0, 0, 0, [], [], 0⟩ := rfl
      have e2 : takeR ⟨1, 0, 0, 0, [], [], 0⟩ y = ⟨2, 2, y.toNat, 0, [], [], 0⟩ := by simp [takeR, commandR, hy, hy2]
      have e3 : takeR ⟨2, 2, y.toNat, 0, [], [], 0⟩ x = ⟨0, 0, 0, 0, [], [((2, y.toNat, x.toNat), [])], 0⟩ := by simp [takeR, wholeR]
      rw [e1, feedL_cons rfl, e2, feedL_cons rfl, e3]; rfl
    have := key ⟨0, 0, 0, 0, [], [((2, y.toNat, x.toNat), [])], 0⟩ (e2 ▸ hs) rfl
    rw [this.1, this.2]; simp [back]
  · obtain ⟨x, rfl⟩ := byte_of (z := o) ho1 ho2
    have e2 : wbytes 3 v x.toNat bs = 255 :: 250 :: x :: (esc bs ++ [255, 240]) := by simp [wbytes]
    have hs : feedL rd0 (255 :: 250 :: x :: (esc bs ++ [255, 240])) = ⟨0, 0, 0, 0, [], [((3, 0, x.toNat), bs)], 0⟩ := by
      rw [feedL_cons rfl]
      have e1 : takeR rd0 255 = ⟨1, 0, 0, 0, [], [], 0⟩ := rfl
      have e2 : takeR ⟨1, 0, 0, 0, [], [], 0⟩ 250 = ⟨3, 3, 0, 0, [], [], 0⟩ := rfl
      have e3 : takeR ⟨3, 3, 0, 0, [], [], 0⟩ x = ⟨4, 3, 0, x.toNat, [], [], 0⟩ := by simp [takeR]
      rw [e1, feedL_cons rfl, e2, feedL_cons rfl, e3, feedL_append, feedL_sub 3 0 _ [] bs [] (by simpa using hn), feedL_cons rfl]
      have e4 : takeR ⟨4, 3, 0, x.toNat, [] ++ bs, [], 0⟩ 255 = ⟨5, 3, 0, x.toNat, bs, [], 0⟩ := by simp [takeR]
      have e5 : takeR ⟨5, 3, 0, x.toNat, bs, [], 0⟩ 240 = ⟨0, 0, 0, 0, [], [((3, 0, x.toNat), bs)], 0⟩ := by simp [takeR, wholeR]
      rw [e4, feedL_cons rfl, e5]; rfl
    have := key ⟨0, 0, 0, 0, [], [((3, 0, x.toNat), bs)], 0⟩ (e2 ▸ hs) rfl
    rw [this.1, this.2]; simp [back]
  · have e2 : wbytes 1 v o bs = esc bs := by simp [wbytes]
    by_cases hb : bs = []
    · subst hb
      have := key rd0 (by rw [e2]; rfl) rfl
      rw [this.1, this.2]; simp [back, rd0]
    · have := key ⟨0, 0, 0, 0, [], [((1, 0, 0), bs)], 0⟩ (e2 ▸ feedL_data0 0 0 0 [] bs hb) rfl
      rw [this.1, this.2]; simp [back, hb]
end L22
