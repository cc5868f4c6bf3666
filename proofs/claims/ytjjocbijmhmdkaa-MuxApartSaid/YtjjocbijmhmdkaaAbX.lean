import Derived.Test.YtjjocbijmhmdkaaAbW
import Derived.Laws.BitsLemmas
import Derived.Laws.Bits64
import Derived.Laws.Strings
namespace Ab
open Go
set_option autoImplicit false
set_option linter.unusedVariables false
set_option linter.unusedSimpArgs false

/-! ### Slices that are one's own, and full -/
/-- Below number lo nothing has turned. -/
structure Fr (lo : Nat) (h h' : AHeap) : Prop where
  next : h.next ≤ h'.next
  base : h'.base = h.base
  old : ∀ i, i < lo → h'.obj i = h.obj i

theorem Fr.refl (lo : Nat) (h : AHeap) : Fr lo h h := ⟨Nat.le_refl _, rfl, fun _ _ => rfl⟩
theorem Fr.trans {lo : Nat} {a b c : AHeap} (h : Fr lo a b) (k : Fr lo b c) : Fr lo a c :=
  ⟨Nat.le_trans h.next k.next, k.base.trans h.base, fun i hi => (k.old i hi).trans (h.old i hi)⟩
theorem Fr.ext {a b : AHeap} (h : Fr a.next a b) : Ext a b := ⟨h.next, h.base, h.old⟩
theorem Ext.fr {a b : AHeap} {lo : Nat} (h : Ext a b) (hlo : lo ≤ a.next) : Fr lo a b := ⟨h.next, h.base, fun i hi => h.old i (Nat.lt_of_lt_of_le hi hlo)⟩

/-- A slice of n elements, whose cells are cs, that lies from number lo on, has no room, and may be written. -/
def GS (e : TypeId) (sz lo : Nat) (h : AHeap) (v : Value) (n : Nat) (cs : List Value) : Prop :=
  (v = .slice none 0 0 ∧ n = 0 ∧ cs = []) ∨ ∃ i off c ti, v = .slice (some ⟨i, off, none⟩) n n ∧ lo ≤ i ∧ i < h.next ∧ h.obj i = some (.row c e sz ti false) ∧ off + n * sz ≤ c.length ∧ (c.drop off).take (n * sz) = cs

theorem GS.nil (e : TypeId) (sz lo : Nat) (h : AHeap) : GS e sz lo h (.slice none 0 0) 0 [] := .inl ⟨rfl, rfl, rfl⟩

theorem GS.length {e : TypeId} {sz lo n : Nat} {h : AHeap} {v : Value} {cs : List Value} (k : GS e sz lo h v n cs) : cs.length = n * sz := by
  rcases k with ⟨rfl, rfl, rfl⟩ | ⟨i, off, c, ti, rfl, h1, h2, h3, h4, rfl⟩
  · simp
  · simp; omega

theorem GS.src {e : TypeId} {sz lo n : Nat} {h : AHeap} {v : Value} {cs : List Value} (k : GS e sz lo h v n cs) : srcCells h sz v = some (n, cs) := by
  rcases k with ⟨rfl, rfl, rfl⟩ | ⟨i, off, c, ti, rfl, h1, h2, h3, h4, rfl⟩
  · rfl
  · simp [srcCells, h3, h4]

/-- It stays, where its block does. -/
theorem GS.keep {e : TypeId} {sz lo n : Nat} {h h' : AHeap} {v : Value} {cs : List Value} (k : GS e sz lo h v n cs) (hn : h.next ≤ h'.next) (hk : ∀ j, j < h.next → blkOf v = some j → h'.obj j = h.obj j) : GS e sz lo h' v n cs := by
  rcases k with k | ⟨i, off, c, ti, rfl, h1, h2, h3, h4, h5⟩
  · exact .inl k
  · exact .inr ⟨i, off, c, ti, rfl, h1, Nat.lt_of_lt_of_le h2 hn, (hk i h2 rfl).trans h3, h4, h5⟩

theorem GS.ext {e : TypeId} {sz lo n : Nat} {h h' : AHeap} {v : Value} {cs : List Value} (k : GS e sz lo h v n cs) (x : Ext h h') : GS e sz lo h' v n cs :=
  k.keep x.next fun j hj _ => x.old j hj

theorem GS.lower {e : TypeId} {sz lo lo' n : Nat} {h : AHeap} {v : Value} {cs : List Value} (k : GS e sz lo h v n cs) (hl : lo' ≤ lo) : GS e sz lo' h v n cs := by
  rcases k with k | ⟨i, off, c, ti, rfl, h1, h2, h3, h4, h5⟩
  · exact .inl k
  · exact .inr ⟨i, off, c, ti, rfl, Nat.le_trans hl h1, h2, h3, h4, h5⟩

theorem GS.blk {e : TypeId} {sz lo n : Nat} {h : AHeap} {v : Value} {cs : List Value} (k : GS e sz lo h v n cs) : ∀ j, blkOf v = some j → lo ≤ j ∧ j < h.next := by
  rcases k with ⟨rfl, _⟩ | ⟨i, off, c, ti, rfl, h1, h2, _⟩
  · intro j hj; cases hj
  · intro j hj; cases hj; exact ⟨h1, h2⟩

/-- What is put behind. -/
theorem GS.app {P : Program} {t e xt : TypeId} {sz by_ lo n m : Nat} {z : Value} {h : AHeap} {v xv : Value} {cs xs : List Value} (ht : P.underlying t = some (.slice e)) (hs : tsz P e = some sz) (hb : tby P e = some by_) (hz : tzero P e = some z)
    (hn : noInt P xt = true) (h0 : 0 < sz) (h1 : 0 < by_) (h2 : z.cells.size = sz) (k : GS e sz lo h v n cs) (hx : srcCells h sz xv = some (m, xs)) (hl : xs.length = m * sz) (hok : xs.all okCell = true) (hc : (n + m) * by_ ≤ 140737488355328)
    (hlo : h.base ≤ lo) (hlo2 : lo ≤ h.next) :
    ∃ v' h', appendW P h t xt v xv = some (v', h') ∧ GS e sz lo h' v' (n + m) (cs ++ xs) ∧ Fr lo h h' ∧ (∀ j, j < h.next → blkOf v ≠ some j → h'.obj j = h.obj j) ∧ (∀ j, blkOf v' = some j → blkOf v = some j ∨ h.next ≤ j) := by
  have hcond : noInt P xt = true ∧ 0 < sz ∧ 0 < by_ ∧ z.cells.size = sz ∧ xs.all okCell = true := ⟨hn, h0, h1, h2, hok⟩
  rcases k with ⟨rfl, rfl, rfl⟩ | ⟨i, off, c, ti, rfl, k1, k2, k3, k4, rfl⟩
  · simp only [appendW, ht, hs, hb, hz, hx]
    rw [if_pos hcond]
    by_cases hm : m = 0
    · subst hm
      obtain rfl : xs = [] := by rw [← List.length_eq_zero_iff]; omega
      rw [if_pos rfl]
      exact ⟨_, _, rfl, .inl ⟨rfl, rfl, rfl⟩, .refl _ _, fun _ _ _ => rfl, fun j hj => by cases hj⟩
    · rw [if_neg hm, if_pos (by simpa using hc)]
      refine ⟨_, _, rfl, .inr ⟨h.next, 0, xs, false, by simp, hlo2, Nat.lt_succ_self _, push_self _ _, by simp [hl], by simp [← hl]⟩, ⟨Nat.le_succ _, rfl, fun j hj => push_old _ _ _ (by omega)⟩, fun j hj _ => push_old _ _ _ hj, fun j hj => ?_⟩
      cases hj; exact .inr (Nat.le_refl _)
  · simp only [appendW, ht, hs, hb, hz, hx]
    rw [if_pos hcond]
    by_cases hm : m = 0
    · subst hm
      obtain rfl : xs = [] := by rw [← List.length_eq_zero_iff]; omega
      rw [if_pos rfl]
      exact ⟨_, _, rfl, .inr ⟨i, off, c, ti, rfl, k1, k2, k3, k4, by simp⟩, .refl _ _, fun _ _ _ => rfl, fun j hj => .inl hj⟩
    · rw [if_neg hm, k3]
      simp only []
      rw [if_pos ⟨trivial, k4⟩, if_neg (by omega), if_pos hc]
      have hlen : ((c.drop off).take (n * sz)).length = n * sz := by simp; omega
      have hmul : (n + m) * sz = n * sz + m * sz := Nat.add_mul _ _ _
      by_cases hti : ti = true
      · rw [if_pos hti]
        refine ⟨_, _, rfl, .inr ⟨h.next, 0, _, false, rfl, hlo2, Nat.lt_succ_self _, push_self _ _, by simp only [List.length_append, hlen, hl]; omega, ?_⟩, ⟨Nat.le_succ _, rfl, fun j hj => push_old _ _ _ (by omega)⟩, fun j hj _ => push_old _ _ _ hj, fun j hj => ?_⟩
        · rw [List.drop_zero, List.take_of_length_le (by simp only [List.length_append, hlen, hl]; omega)]
        · cases hj; exact .inr (Nat.le_refl _)
      · rw [if_neg hti, if_pos ⟨trivial, by omega, trivial⟩]
        refine ⟨_, _, rfl, .inr ⟨h.next, 0, _, false, rfl, hlo2, Nat.lt_succ_self _, push_self _ _, by simp only [List.length_append, hlen, hl]; omega, ?_⟩, ⟨Nat.le_succ _, rfl, fun j hj => ?_⟩, fun j hj hne => ?_, fun j hj => ?_⟩
        · rw [List.drop_zero, List.take_of_length_le (by simp only [List.length_append, hlen, hl]; omega)]
        · rw [push_old _ _ _ (by rw [kill_next]; omega), kill_ne _ _ _ (by omega)]
        · rw [push_old _ _ _ (by rw [kill_next]; omega), kill_ne _ _ _ (by rintro rfl; exact hne rfl)]
        · cases hj; exact .inr (Nat.le_refl _)

/-- Bytes that are one's own, and full. -/
abbrev GB (e : TypeId) (lo : Nat) (h : AHeap) (v : Value) (bs : List UInt8) : Prop := GS e 1 lo h v bs.length (bs.map B)

theorem GS.bytes {e : TypeId} {lo : Nat} {h : AHeap} {v : Value} {bs : List UInt8} (k : GB e lo h v bs) : Bytes h v bs := by
  rcases k with ⟨rfl, h1, h2⟩ | ⟨i, off, c, ti, rfl, h1, h2, h3, h4, h5⟩
  · exact .inl ⟨rfl, by simpa using h1⟩
  · exact .inr ⟨i, off, _, c, e, 1, ti, false, rfl, Nat.le_refl _, h2, h3, .inr rfl, by omega, by rw [Nat.mul_one] at h5; exact h5⟩

theorem GB.app {P : Program} {t e xt : TypeId} {lo : Nat} {h : AHeap} {v xv : Value} {bs xs : List UInt8} (ht : P.underlying t = some (.slice e)) (hs : tsz P e = some 1) (hb : tby P e = some 1) (hz : tzero P e = some (.int .u8 0))
    (hn : noInt P xt = true) (k : GB e lo h v bs) (hx : srcCells h 1 xv = some (xs.length, xs.map B)) (hc : bs.length + xs.length ≤ 140737488355328) (hlo : h.base ≤ lo) (hlo2 : lo ≤ h.next) :
    ∃ v' h', appendW P h t xt v xv = some (v', h') ∧ GB e lo h' v' (bs ++ xs) ∧ Fr lo h h' ∧ (∀ j, j < h.next → blkOf v ≠ some j → h'.obj j = h.obj j) ∧ (∀ j, blkOf v' = some j → blkOf v = some j ∨ h.next ≤ j) := by
  have := GS.app ht hs hb hz hn (by omega) (by omega) (by rfl) k hx (by simp) (all_okCell_B xs) (by omega) hlo hlo2
  simpa [GB] using this

theorem Bytes.str {P : Program} {h : AHeap} {v : Value} {bs : List UInt8} {t e u : TypeId} (ht : P.underlying t = some (.slice e)) (he : P.underlying e = some (.int .u8)) (hu : P.underlying u = some .string) (k : Bytes h v bs) :
    strR P h t u v = some (.string ⟨bs.toArray⟩) := by
  rcases k with ⟨rfl, rfl⟩ | ⟨i, off, cap, c, e', sz, ti, ro, rfl, h2, h3, h4, h5, h6, h7⟩
  · simp only [strR, ht, hu, he]; rfl
  · simp only [strR, ht, hu, he, h4]
    rw [if_pos h6, h7, bytesOf_map]; rfl

theorem Bytes.len {P : Program} {h : AHeap} {v : Value} {bs : List UInt8} {t e : TypeId} (ht : P.underlying t = some (.slice e)) (k : Bytes h v bs) : lenE P h t v = some (.int .i64 bs.length) := by
  rcases k with ⟨rfl, rfl⟩ | ⟨i, off, cap, c, e', sz, ti, ro, rfl, h2, h3, h4, h5, h6, h7⟩
  · simp [lenE, ht]
  · simp [lenE, ht]

/-- A cell that is written. -/
theorem storeW_cell {P : Program} {t e : TypeId} {h : AHeap} {i off sz : Nat} {c : List Value} {ti : Bool} {v : Value} (hs : tsz P t = some 1) (ho : h.obj i = some (.row c e sz ti false)) (hoff : off < c.length) (hc : v.cells = #[v]) (hk : okCell v = true) (hk2 : v.known = true) :
    storeW P h t (.pointer (some ⟨i, off, none⟩)) v = some (h.set i (.row (c.set off v) e sz ti false)) := by
  simp only [storeW, ho, hs, hc]
  rw [if_pos ⟨rfl, hoff, by simpa using hk, hk2⟩]
  rfl

theorem wI64 {n : Int} (h1 : -9223372036854775808 ≤ n) (h2 : n ≤ 9223372036854775807) : IntKind.i64.wrap n = n := by
  rw [IntKind.wrap_i64]; omega
theorem wU64 {n : Int} (h1 : 0 ≤ n) (h2 : n ≤ 18446744073709551615) : IntKind.u64.wrap n = n := by
  rw [IntKind.wrap_u64]; omega
theorem wU8 {n : Int} (h1 : 0 ≤ n) (h2 : n ≤ 255) : IntKind.u8.wrap n = n := by
  rw [IntKind.wrap_u8]; omega

/-! ### Slices of anything, to be read -/
/-- A slice of n elements, whose cells are cs. -/
def Sl (sz : Nat) (h : AHeap) (v : Value) (n : Nat) (cs : List Value) : Prop :=
  (v = .slice none 0 0 ∧ n = 0 ∧ cs = []) ∨ ∃ i off cap c e sz' ti ro, v = .slice (some ⟨i, off, none⟩) n cap ∧ n ≤ cap ∧ i < h.next ∧ h.obj i = some (.row c e sz' ti ro) ∧ (ti = true ∨ sz' = sz) ∧ off + n * sz ≤ c.length ∧ (c.drop off).take (n * sz) = cs

theorem GS.sl {e : TypeId} {sz lo n : Nat} {h : AHeap} {v : Value} {cs : List Value} (k : GS e sz lo h v n cs) : Sl sz h v n cs := by
  rcases k with k | ⟨i, off, c, ti, rfl, h1, h2, h3, h4, h5⟩
  · exact .inl k
  · exact .inr ⟨i, off, n, c, e, sz, ti, false, rfl, Nat.le_refl _, h2, h3, .inr rfl, h4, h5⟩

theorem Bytes.sl {h : AHeap} {v : Value} {bs : List UInt8} (k : Bytes h v bs) : Sl 1 h v bs.length (bs.map B) := by
  rcases k with ⟨rfl, rfl⟩ | ⟨i, off, cap, c, e, sz, ti, ro, rfl, h2, h3, h4, h5, h6, h7⟩
  · exact .inl ⟨rfl, rfl, rfl⟩
  · exact .inr ⟨i, off, cap, c, e, sz, ti, ro, rfl, h2, h3, h4, h5, by omega, by simpa using h7⟩

theorem Sl.keep {sz n : Nat} {h h' : AHeap} {v : Value} {cs : List Value} (k : Sl sz h v n cs) (hn : h.next ≤ h'.next) (hk : ∀ j, j < h.next → blkOf v = some j → h'.obj j = h.obj j) : Sl sz h' v n cs := by
  rcases k with k | ⟨i, off, cap, c, e, sz', ti, ro, rfl, h1, h2, h3, h4, h5, h6⟩
  · exact .inl k
  · exact .inr ⟨i, off, cap, c, e, sz', ti, ro, rfl, h1, Nat.lt_of_lt_of_le h2 hn, (hk i h2 rfl).trans h3, h4, h5, h6⟩

theorem Sl.ext {sz n : Nat} {h h' : AHeap} {v : Value} {cs : List Value} (k : Sl sz h v n cs) (x : Ext h h') : Sl sz h' v n cs := k.keep x.next fun j hj _ => x.old j hj

theorem Bytes.keep {h h' : AHeap} {v : Value} {bs : List UInt8} (k : Bytes h v bs) (hn : h.next ≤ h'.next) (hk : ∀ j, j < h.next → blkOf v = some j → h'.obj j = h.obj j) : Bytes h' v bs := by
  rcases k with k | ⟨i, off, cap, c, e, sz, ti, ro, rfl, h1, h2, h3, h4, h5⟩
  · exact .inl k
  · exact .inr ⟨i, off, cap, c, e, sz, ti, ro, rfl, h1, Nat.lt_of_lt_of_le h2 hn, (hk i h2 rfl).trans h3, h4, h5⟩

theorem Sl.length {sz n : Nat} {h : AHeap} {v : Value} {cs : List Value} (k : Sl sz h v n cs) : cs.length = n * sz := by
  rcases k with ⟨rfl, rfl, rfl⟩ | ⟨i, off, cap, c, e, sz', ti, ro, rfl, h1, h2, h3, h4, h5, rfl⟩
  · simp
  · simp; omega

theorem Sl.src {sz n : Nat} {h : AHeap} {v : Value} {cs : List Value} (k : Sl sz h v n cs) : srcCells h sz v = some (n, cs) := by
  rcases k with ⟨rfl, rfl, rfl⟩ | ⟨i, off, cap, c, e, sz', ti, ro, rfl, h1, h2, h3, h4, h5, rfl⟩
  · rfl
  · simp [srcCells, h3, h5]

theorem Sl.len {P : Program} {sz n : Nat} {h : AHeap} {v : Value} {cs : List Value} {t e : TypeId} (ht : P.underlying t = some (.slice e)) (k : Sl sz h v n cs) : lenE P h t v = some (.int .i64 n) := by
  rcases k with ⟨rfl, rfl, rfl⟩ | ⟨i, off, cap, c, e', sz', ti, ro, rfl, h1, h2, h3, h4, h5, rfl⟩
  · simp [lenE, ht]
  · simp [lenE, ht]

theorem Sl.val {sz n : Nat} {h : AHeap} {v : Value} {cs : List Value} (k : Sl sz h v n cs) : ∃ a cap, v = .slice a n cap := by
  rcases k with ⟨rfl, rfl, rfl⟩ | ⟨i, off, cap, c, e', sz', ti, ro, rfl, h1, h2, h3, h4, h5, rfl⟩
  · exact ⟨_, _, rfl⟩
  · exact ⟨_, _, rfl⟩

/-- Where an element lies, and what is there. -/
theorem Sl.at {P : Program} {sz n : Nat} {h : AHeap} {v : Value} {cs : List Value} {t e : TypeId} (ht : P.underlying t = some (.slice e)) (hs : tsz P e = some sz) (k : Sl sz h v n cs) {j : Nat} (hj : j < n) {kd : IntKind} :
    ∃ i off c e' sz' ti ro, indexAddrP P t v (.int kd j) = some (.pointer (some ⟨i, off, none⟩)) ∧ blkOf v = some i ∧ i < h.next ∧ h.obj i = some (.row c e' sz' ti ro) ∧ off + sz ≤ c.length ∧ (c.drop off).take sz = (cs.drop (j * sz)).take sz := by
  rcases k with ⟨rfl, rfl, rfl⟩ | ⟨i, off, cap, c, e', sz', ti, ro, rfl, h1, h2, h3, h4, h5, rfl⟩
  · omega
  · have hm : (j + 1) * sz ≤ n * sz := Nat.mul_le_mul_right _ hj
    rw [Nat.add_mul, Nat.one_mul] at hm
    refine ⟨i, off + j * sz, c, e', sz', ti, ro, ?_, rfl, h2, h3, by omega, ?_⟩
    · simp [indexAddrP, ht, hs, hj]
    · rw [List.drop_take, List.drop_drop, List.take_take, Nat.min_eq_left (by omega)]

/-- An element that is a struct, or one cell. -/
theorem Sl.load {P : Program} {sz n : Nat} {h : AHeap} {v : Value} {cs : List Value} {t e : TypeId} (ht : P.underlying t = some (.slice e)) (hs : tsz P e = some sz) (ha : aggB P e = some true) (k : Sl sz h v n cs) {j : Nat} (hj : j < n) {kd : IntKind} :
    ∃ p, indexAddrP P t v (.int kd j) = some p ∧ loadR P h e p = some (.agg ((cs.drop (j * sz)).take sz).toArray) := by
  obtain ⟨i, off, c, e', sz', ti, ro, h1, h2, h3, h4, h5, h6⟩ := k.at ht hs hj (kd := kd)
  refine ⟨_, h1, ?_⟩
  simp only [loadR, h4, ha, hs, Option.bind_some]
  rw [if_pos h5, h6]

theorem Sl.cell {P : Program} {sz n : Nat} {h : AHeap} {v : Value} {cs : List Value} {t e : TypeId} (ht : P.underlying t = some (.slice e)) (hs : tsz P e = some sz) (k : Sl sz h v n cs) {j f : Nat} (hj : j < n) (hf : f < sz) {kd : IntKind} {x : Value} (hx : cs[j * sz + f]? = some x) :
    ∃ i off c e' sz' ti ro, indexAddrP P t v (.int kd j) = some (.pointer (some ⟨i, off, none⟩)) ∧ blkOf v = some i ∧ i < h.next ∧ h.obj i = some (.row c e' sz' ti ro) ∧ c[off + f]? = some x := by
  obtain ⟨i, off, c, e', sz', ti, ro, h1, h2, h3, h4, h5, h6⟩ := k.at ht hs hj (kd := kd)
  refine ⟨i, off, c, e', sz', ti, ro, h1, h2, h3, h4, ?_⟩
  have := congrArg (·[f]?) h6
  simp only [List.getElem?_take, if_pos hf, List.getElem?_drop] at this
  rw [this, hx]

theorem storeW_row {P : Program} {t e : TypeId} {h : AHeap} {i off sz : Nat} {c : List Value} {ti : Bool} {v : Value} (cl : List Value) (hcl : v.cells = cl.toArray) (hs : tsz P t = some cl.length) (ho : h.obj i = some (.row c e sz ti false)) (hoff : off + cl.length ≤ c.length)
    (hk : cl.all okCell = true) (hk2 : v.known = true) : storeW P h t (.pointer (some ⟨i, off, none⟩)) v = some (h.set i (.row (setL c off cl) e sz ti false)) := by
  simp only [storeW, ho, hs, hcl]
  rw [if_pos ⟨by simp, by simpa using hoff, by simpa using hk, hk2⟩]

/-- A new object that is written at once. -/
theorem push_set (h : AHeap) (o o' : AObj) : (h.push o).set h.next o' = h.push o' := by
  unfold AHeap.push AHeap.set
  simp only [AHeap.mk.injEq, and_true]
  funext j
  by_cases hj : j = h.next <;> simp [hj]
attribute [go_sem] push_set

theorem AWP.onlyE {P : Program} {Q : Exit → St → AHeap → Prop} {s s2 : St} {h : AHeap} {c : Code} (ts : List Nat) (e : s.only ts = s2) (k : AWP P c Q s2 h) : AWP P c Q s h := AWP.only ts (e ▸ k)

theorem Bytes.conv {P : Program} {h : AHeap} {v : Value} {bs : List UInt8} {t e u : TypeId} (ht : P.underlying t = some (.slice e)) (he : P.underlying e = some (.int .u8)) (hu : P.underlying u = some .string) (k : Bytes h v bs) :
    convR P h t u v = some (.string ⟨bs.toArray⟩) := by
  have := k.str ht he hu
  obtain ⟨a, cap, rfl⟩ := k.val
  simp only [convR, this]

/-- A text of bytes. -/
def T (bs : List UInt8) : Value := .string ⟨bs.toArray⟩
theorem strA_eql (a b : List UInt8) : strA .eql ⟨a.toArray⟩ ⟨b.toArray⟩ = some (.bool (a == b)) := by
  simp only [strA, ByteArray.toList_mk]
theorem strA_neq (a b : List UInt8) : strA .neq ⟨a.toArray⟩ ⟨b.toArray⟩ = some (.bool !(a == b)) := by
  simp only [strA, ByteArray.toList_mk]
attribute [go_sem] strA_eql strA_neq

theorem OBytes.val {e : TypeId} {n : Nat} {h : AHeap} {v : Value} {bs : List UInt8} (k : OBytes e n h v bs) : ∃ a cap, v = .slice a bs.length cap := k.bytes.val
theorem OBytes.keep {e : TypeId} {n : Nat} {h h' : AHeap} {v : Value} {bs : List UInt8} (k : OBytes e n h v bs) (hn : h.next ≤ h'.next) (hk : ∀ j c ti, j < h.next → blkOf v = some j → h.obj j = some (.row c e 1 ti false) → h'.obj j = h.obj j) : OBytes e n h' v bs := by
  rcases k with k | ⟨i, off, cap, c, ti, rfl, h1, h2, h3, h4, h5⟩
  · exact .inl k
  · exact .inr ⟨i, off, cap, c, ti, rfl, h1, h2, Nat.lt_of_lt_of_le h3 hn, (hk i c ti h3 rfl h4).trans h4, h5⟩
theorem GS.obytes {e : TypeId} {lo : Nat} {h : AHeap} {v : Value} {bs : List UInt8} (k : GB e lo h v bs) : OBytes e lo h v bs := by
  rcases k with ⟨rfl, h1, h2⟩ | ⟨i, off, c, ti, rfl, h1, h2, h3, h4, h5⟩
  · exact .inl ⟨rfl, by simpa using h1⟩
  · exact .inr ⟨i, off, _, c, ti, rfl, Nat.le_refl _, h1, h2, h3, by omega, by rw [Nat.mul_one] at h5; exact h5⟩

theorem Bytes.blk {h : AHeap} {v : Value} {bs : List UInt8} (k : Bytes h v bs) : ∀ j, blkOf v = some j → j < h.next := by
  rcases k with ⟨rfl, _⟩ | ⟨i, off, cap, c, e, sz, ti, ro, rfl, h2, h3, _⟩
  · intro j hj; cases hj
  · intro j hj; cases hj; exact h3

/-- The same value, later. -/
theorem Bytes.later {h h' h0 : AHeap} {v : Value} {bs : List UInt8} (k : Bytes h v bs) (hb : ∀ j, blkOf v = some j → j < h0.next) (x : Ext h0 h) (y : Ext h0 h') (hn : h.next ≤ h'.next) : Bytes h' v bs :=
  k.keep hn fun j _ hj => (y.old j (hb j hj)).trans (x.old j (hb j hj)).symm
end Ab
