import Derived.Test.YtjjocbijmhmdkaaAbV
namespace Ab
open Go
set_option autoImplicit false
set_option linter.unusedVariables false
set_option linter.unusedSimpArgs false

/-! ### The heap's words -/
section
variable (h : AHeap) (o : AObj) (i j : Nat)
theorem push_next : (h.push o).next = h.next + 1 := rfl
theorem push_base : (h.push o).base = h.base := rfl
theorem set_next : (h.set i o).next = h.next := rfl
theorem set_base : (h.set i o).base = h.base := rfl
theorem kill_next : (h.kill i).next = h.next := rfl
theorem kill_base : (h.kill i).base = h.base := rfl
theorem push_self : (h.push o).obj h.next = some o := by simp [AHeap.push]
theorem push_ne (hi : i ≠ h.next) : (h.push o).obj i = h.obj i := by simp [AHeap.push, hi]
theorem push_old (hi : i < h.next) : (h.push o).obj i = h.obj i := push_ne h o i (by omega)
theorem set_self : (h.set i o).obj i = some o := by simp [AHeap.set]
theorem set_ne (hi : j ≠ i) : (h.set i o).obj j = h.obj j := by simp [AHeap.set, hi]
theorem kill_ne (hi : j ≠ i) : (h.kill i).obj j = h.obj j := by simp [AHeap.kill, hi]
end
attribute [go_sem] push_next push_base set_next set_base kill_next kill_base push_self set_self

/-- Nothing that was there has turned. -/
structure Ext (h h' : AHeap) : Prop where
  next : h.next ≤ h'.next
  base : h'.base = h.base
  old : ∀ i, i < h.next → h'.obj i = h.obj i

theorem Ext.refl (h : AHeap) : Ext h h := ⟨Nat.le_refl _, rfl, fun _ _ => rfl⟩
theorem Ext.trans {a b c : AHeap} (h : Ext a b) (k : Ext b c) : Ext a c :=
  ⟨Nat.le_trans h.next k.next, k.base.trans h.base, fun i hi => (k.old i (Nat.lt_of_lt_of_le hi h.next)).trans (h.old i hi)⟩
theorem Ext.push {a b : AHeap} (h : Ext a b) (o : AObj) : Ext a (b.push o) :=
  h.trans ⟨Nat.le_succ _, rfl, fun i hi => push_old b o i hi⟩
theorem Ext.set {a b : AHeap} (h : Ext a b) {i : Nat} (hi : a.next ≤ i) (o : AObj) : Ext a (b.set i o) :=
  ⟨h.next, h.base, fun j hj => by rw [set_ne b o i j (by omega)]; exact h.old j hj⟩
theorem Ext.kill {a b : AHeap} (h : Ext a b) {i : Nat} (hi : a.next ≤ i) : Ext a (b.kill i) :=
  ⟨h.next, h.base, fun j hj => by rw [kill_ne b i j (by omega)]; exact h.old j hj⟩

/-- What every heap of a run is. -/
theorem ACalls.wf {P : Program} {f : FuncId} {args : Array Value} {h : AHeap} {Q : Value → AHeap → Prop} (k : h.base ≤ h.next → (∀ i, h.next ≤ i → h.obj i = none) → ACalls P f args h Q) : ACalls P f args h Q :=
  fun M w cargs r hv => k r.ble r.bnd M w cargs r hv

theorem okCell_B (u : UInt8) : okCell (B u) = true := rfl
theorem okCell_int (k : IntKind) (n : Int) : okCell (.int k n) = true := rfl
theorem okCell_bool (b : Bool) : okCell (.bool b) = true := rfl
theorem okCell_string (s : ByteArray) : okCell (.string s) = true := rfl
theorem okCell_slice (a : Option Addr) (l c : Nat) : okCell (.slice a l c) = true := rfl
theorem okCell_pointer (a : Option Addr) : okCell (.pointer a) = true := rfl
theorem okCell_map (a : Option Nat) : okCell (.map a) = true := rfl
theorem all_okCell_map {α : Type} (f : α → Value) (hf : ∀ x, okCell (f x) = true) (l : List α) : (l.map f).all okCell = true := by
  rw [List.all_eq_true]; intro v hv; obtain ⟨b, _, rfl⟩ := List.mem_map.1 hv; exact hf b
theorem all_okCell_B (l : List UInt8) : (l.map B).all okCell = true := all_okCell_map B okCell_B l
attribute [go_sem] okCell_B okCell_int okCell_bool okCell_string okCell_slice okCell_pointer okCell_map all_okCell_B Value.known Value.cells

theorem known_int (k : IntKind) (n : Int) : (Value.int k n).known = true := rfl

/-- In which object a value points. -/
def blkOf : Value → Option Nat
  | .slice (some ⟨i, _, _⟩) _ _ => some i
  | .pointer (some ⟨i, _, _⟩) => some i
  | _ => none

/-! ### Bytes in memory -/
/-- A slice that reads as bytes. -/
def Bytes (h : AHeap) (v : Value) (bs : List UInt8) : Prop :=
  (v = .slice none 0 0 ∧ bs = []) ∨ ∃ i off cap c e sz ti ro, v = .slice (some ⟨i, off, none⟩) bs.length cap ∧ bs.length ≤ cap ∧ i < h.next ∧ h.obj i = some (.row c e sz ti ro) ∧ (ti = true ∨ sz = 1) ∧
    off + bs.length ≤ c.length ∧ (c.drop off).take bs.length = bs.map B

/-- The same in memory from number n on, that may be written. -/
def OBytes (e : TypeId) (n : Nat) (h : AHeap) (v : Value) (bs : List UInt8) : Prop :=
  (v = .slice none 0 0 ∧ bs = []) ∨ ∃ i off cap c ti, v = .slice (some ⟨i, off, none⟩) bs.length cap ∧ bs.length ≤ cap ∧ n ≤ i ∧ i < h.next ∧ h.obj i = some (.row c e 1 ti false) ∧
    off + bs.length ≤ c.length ∧ (c.drop off).take bs.length = bs.map B

theorem OBytes.bytes {e : TypeId} {n : Nat} {h : AHeap} {v : Value} {bs : List UInt8} (k : OBytes e n h v bs) : Bytes h v bs := by
  rcases k with k | ⟨i, off, cap, c, ti, h1, h2, _, h4, h5, h6, h7⟩
  · exact .inl k
  · exact .inr ⟨i, off, cap, c, e, 1, ti, false, h1, h2, h4, h5, .inr rfl, h6, h7⟩

theorem OBytes.lower {e : TypeId} {n m : Nat} {h : AHeap} {v : Value} {bs : List UInt8} (k : OBytes e n h v bs) (hm : m ≤ n) : OBytes e m h v bs := by
  rcases k with k | ⟨i, off, cap, c, ti, h1, h2, h3, h4, h5, h6, h7⟩
  · exact .inl k
  · exact .inr ⟨i, off, cap, c, ti, h1, h2, Nat.le_trans hm h3, h4, h5, h6, h7⟩

theorem Bytes.ext {h h' : AHeap} {v : Value} {bs : List UInt8} (k : Bytes h v bs) (x : Ext h h') : Bytes h' v bs := by
  rcases k with k | ⟨i, off, cap, c, e, sz, ti, ro, h1, h2, h3, h4, h5⟩
  · exact .inl k
  · exact .inr ⟨i, off, cap, c, e, sz, ti, ro, h1, h2, Nat.lt_of_lt_of_le h3 x.next, (x.old i h3).trans h4, h5⟩

theorem OBytes.ext {e : TypeId} {n : Nat} {h h' : AHeap} {v : Value} {bs : List UInt8} (k : OBytes e n h v bs) (x : Ext h h') : OBytes e n h' v bs := by
  rcases k with k | ⟨i, off, cap, c, ti, h1, h2, h3, h4, h5, h6⟩
  · exact .inl k
  · exact .inr ⟨i, off, cap, c, ti, h1, h2, h3, Nat.lt_of_lt_of_le h4 x.next, (x.old i h4).trans h5, h6⟩

theorem Bytes.nil (h : AHeap) : Bytes h (.slice none 0 0) [] := .inl ⟨rfl, rfl⟩
theorem OBytes.nil (e : TypeId) (n : Nat) (h : AHeap) : OBytes e n h (.slice none 0 0) [] := .inl ⟨rfl, rfl⟩

/-- A slice's value, however it lies. -/
theorem Bytes.val {h : AHeap} {v : Value} {bs : List UInt8} (k : Bytes h v bs) : ∃ a cap, v = .slice a bs.length cap := by
  rcases k with ⟨rfl, rfl⟩ | ⟨i, off, cap, c, e, sz, ti, ro, rfl, _⟩
  · exact ⟨none, 0, rfl⟩
  · exact ⟨_, _, rfl⟩

theorem Bytes.src {h : AHeap} {v : Value} {bs : List UInt8} (k : Bytes h v bs) : srcCells h 1 v = some (bs.length, bs.map B) := by
  rcases k with ⟨rfl, rfl⟩ | ⟨i, off, cap, c, e, sz, ti, ro, rfl, h2, h3, h4, h5, h6, h7⟩
  · rfl
  · simp [srcCells, h4, h6, h7]

/-- A byte that is read. -/
theorem Bytes.get {P : Program} {h : AHeap} {v : Value} {bs : List UInt8} (k : Bytes h v bs) {t e : TypeId} (ht : P.underlying t = some (.slice e)) (he : aggB P e = some false) (hs : tsz P e = some 1) {j : Nat} (hj : j < bs.length) {kd : IntKind} :
    ∃ p, indexAddrP P t v (.int kd j) = some p ∧ loadR P h e p = some (B bs[j]) := by
  rcases k with ⟨rfl, rfl⟩ | ⟨i, off, cap, c, e', sz, ti, ro, rfl, h2, h3, h4, h5, h6, h7⟩
  · simp at hj
  · refine ⟨.pointer (some ⟨i, off + j, none⟩), ?_, ?_⟩
    · simp [indexAddrP, ht, hs, hj]
    · simp only [loadR, h4, he]
      have e1 : ((c.drop off).take bs.length)[j]? = some (B bs[j]) := by rw [h7]; simp [hj]
      rw [List.getElem?_take, if_pos hj, List.getElem?_drop] at e1
      exact e1

/-- A piece. -/
theorem Bytes.slice {P : Program} {h : AHeap} {v : Value} {bs : List UInt8} (k : Bytes h v bs) {t e : TypeId} (ht : P.underlying t = some (.slice e)) (hs : tsz P e = some 1) {lo hi : Nat} (h1 : lo ≤ hi) (h2 : hi ≤ bs.length)
    {l u : Option Value} (hl : (l = none ∧ lo = 0) ∨ ∃ kd, l = some (.int kd lo)) (hu : (u = none ∧ hi = bs.length) ∨ ∃ kd, u = some (.int kd hi)) :
    ∃ v', sliceR P h t v l u none = some v' ∧ Bytes h v' ((bs.take hi).drop lo) ∧ ∀ j, blkOf v' = some j → blkOf v = some j := by
  have hlen : ((bs.take hi).drop lo).length = hi - lo := by simp; omega
  rcases k with ⟨rfl, rfl⟩ | ⟨i, off, cap, c, e', sz, ti, ro, rfl, h3, h4, h5, h6, h7, h8⟩
  · simp at h2
    subst h2
    obtain rfl : lo = 0 := by omega
    refine ⟨.slice none 0 0, ?_, .inl ⟨rfl, by simp⟩, fun j hj => hj⟩
    rcases hl with ⟨rfl, _⟩ | ⟨kd, rfl⟩ <;> rcases hu with ⟨rfl, _⟩ | ⟨kd', rfl⟩ <;> simp [sliceR, ht, hs, bnds, sb]
  · have hb : bnds bs.length cap l u none = some (lo, hi, cap) := by
      have hc : hi ≤ cap := by omega
      rcases hl with ⟨rfl, hl⟩ | ⟨kd, rfl⟩ <;> rcases hu with ⟨rfl, hu⟩ | ⟨kd', rfl⟩ <;> first
        | (simp [bnds, sb, hc, h1]; done)
        | (simp [bnds, sb, hc, h1]; omega)
        | (subst hu; simp [bnds, sb, h1]; done)
        | (subst hu; simp [bnds, sb, h1]; omega)
    refine ⟨_, by simp only [sliceR, ht, hs, h5, hb]; rw [if_pos (by rcases h6 with h | h <;> simp [h])], ?_, fun j hj => by split at hj <;> exact hj⟩
    right
    split
    · rename_i hc
      have h0 : hi - lo = 0 := by omega
      refine ⟨i, off, 0, c, e', sz, ti, ro, by rw [hlen, h0], by rw [hlen, h0]; exact Nat.le_refl _, h4, h5, h6, by rw [hlen]; omega, ?_⟩
      have : (bs.take hi).drop lo = [] := by rw [← List.length_eq_zero_iff]; omega
      simp [this]
    · refine ⟨i, off + lo * 1, cap - lo, c, e', sz, ti, ro, by rw [hlen], by rw [hlen]; omega, h4, h5, h6, by rw [hlen]; omega, ?_⟩
      rw [hlen, Nat.mul_one, ← List.drop_drop]
      have e1 : (c.drop off).take hi = (bs.take hi).map B := by
        have := congrArg (List.take hi) h8
        rw [List.take_take, Nat.min_eq_left h2, ← List.map_take] at this
        exact this
      have e2 : ((c.drop off).drop lo).take (hi - lo) = ((c.drop off).take hi).drop lo := by rw [List.drop_take]
      rw [e2, e1, List.map_drop]
end Ab
