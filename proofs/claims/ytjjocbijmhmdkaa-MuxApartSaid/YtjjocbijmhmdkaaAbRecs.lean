import Derived.Test.YtjjocbijmhmdkaaAbWalk2
namespace Ab
open Go
set_option autoImplicit false
set_option linter.unusedVariables false
set_option linter.unusedSimpArgs false

/-! ### Slices of records, of which the last field is a slice of bytes -/
theorem flat_get {α : Type} {sz : Nat} : ∀ {l : List (List α)} {j f : Nat}, (∀ x ∈ l, x.length = sz) → f < sz → l.flatten[j * sz + f]? = l[j]?.bind (·[f]?)
  | [], j, f, _, _ => by simp
  | x :: l, 0, f, h, hf => by
    have := h x (by simp)
    rw [List.flatten_cons, List.getElem?_append_left (by omega)]; simp
  | x :: l, j + 1, f, h, hf => by
    have hx := h x (by simp)
    have := flat_get (l := l) (j := j) (f := f) (fun y hy => h y (by simp [hy])) hf
    rw [List.flatten_cons, List.getElem?_append_right (by rw [hx, Nat.add_mul]; omega), hx, show (j + 1) * sz + f - sz = j * sz + f by rw [Nat.add_mul]; omega, this]
    simp

theorem flat_length {α : Type} {sz : Nat} : ∀ {l : List (List α)}, (∀ x ∈ l, x.length = sz) → l.flatten.length = l.length * sz
  | [], _ => by simp
  | x :: l, h => by
    rw [List.flatten_cons, List.length_append, h x (by simp), flat_length fun y hy => h y (by simp [hy]), List.length_cons, Nat.add_mul]; omega

/-- An element of a slice of records. -/
theorem Sl.record {P : Program} {sz n : Nat} {h : AHeap} {v : Value} {l : List (List Value)} {t e : TypeId} (ht : P.underlying t = some (.slice e)) (hs : tsz P e = some sz) (k : Sl sz h v n l.flatten) (hall : ∀ x ∈ l, x.length = sz) (hn : l.length = n) {j : Nat} (hj : j < n) {kd : IntKind} :
    ∃ i off c e' sz' ti ro, indexAddrP P t v (.int kd j) = some (.pointer (some ⟨i, off, none⟩)) ∧ h.obj i = some (.row c e' sz' ti ro) ∧ off + sz ≤ c.length ∧ (c.drop off).take sz = l[j]'(by omega) ∧ ∀ f x, (l[j]'(by omega))[f]? = some x → c[off + f]? = some x := by
  obtain ⟨i, off, c, e', sz', ti, ro, h1, _, _, h4, h5, h6⟩ := k.at ht hs hj (kd := kd)
  have hjl : j < l.length := by omega
  have hlj := hall l[j] (List.getElem_mem hjl)
  have e1 : (c.drop off).take sz = l[j] := by
    rw [h6]
    apply List.ext_getElem?
    intro f
    rw [List.getElem?_take]
    split
    · rename_i hf
      rw [List.getElem?_drop, flat_get hall hf, List.getElem?_eq_getElem hjl]; rfl
    · rw [List.getElem?_eq_none (by omega)]
  refine ⟨i, off, c, e', sz', ti, ro, h1, h4, h5, e1, fun f x hx => ?_⟩
  rw [← e1, List.getElem?_take] at hx
  split at hx
  · rw [List.getElem?_drop] at hx; exact hx
  · cases hx

section
variable {α : Type} (pre : α → List Value)

def rec1 (x : α × List UInt8) (p : Option Addr × Nat) : List Value := pre x.1 ++ [.slice p.1 x.2.length p.2]
def rcells (fs : List (α × List UInt8)) (ac : List (Option Addr × Nat)) : List (List Value) := List.zipWith (rec1 pre) fs ac
def rbods (u : TypeId) (fs : List (α × List UInt8)) (ac : List (Option Addr × Nat)) : List Chunk := List.zipWith (fun (f : α × List UInt8) (p : Option Addr × Nat) => ob u (.slice p.1 f.2.length p.2) f.2) fs ac

/-- Records that are one's own. -/
def brecs (e : TypeId) (sz : Nat) (u : TypeId) (v : Value) (fs : List (α × List UInt8)) : Chunk := ex fun ac => pur (ac.length = fs.length) (star (os e sz v fs.length (rcells pre fs ac).flatten :: rbods u fs ac))

/-- Records that are read. -/
def BR (sz : Nat) (h : AHeap) (v : Value) (fs : List (α × List UInt8)) : Prop :=
  ∃ ac : List (Option Addr × Nat), ac.length = fs.length ∧ Sl sz h v fs.length (rcells pre fs ac).flatten ∧ ∀ (j : Nat) (f : α × List UInt8) (p : Option Addr × Nat), fs[j]? = some f → ac[j]? = some p → Bytes h (.slice p.1 f.2.length p.2) f.2

variable {pre} {O : Old} {h : AHeap} {R : List Chunk} {e u : TypeId} {sz : Nat} {v : Value} {fs : List (α × List UInt8)}

theorem brecs_iff : Own O h (brecs pre e sz u v fs :: R) ↔ ∃ ac : List (Option Addr × Nat), ac.length = fs.length ∧ Own O h (os e sz v fs.length (rcells pre fs ac).flatten :: (rbods u fs ac ++ R)) := by
  simp only [brecs, Own.ex_iff, Own.pur_iff, Own.star_iff, List.cons_append]

theorem rcells_length {ac : List (Option Addr × Nat)} (ha : ac.length = fs.length) : (rcells pre fs ac).length = fs.length := by simp [rcells, ha]
theorem rbods_length {ac : List (Option Addr × Nat)} (ha : ac.length = fs.length) : (rbods u fs ac).length = fs.length := by simp [rbods, ha]

theorem Own.mem {L : List Chunk} {j : Nat} {A : Chunk} (k : Own O h (L ++ R)) (hj : L[j]? = some A) : Own O h (A :: (L.eraseIdx j ++ R)) := by
  refine k.perm ?_
  have := perm_bring hj
  exact (this.symm.append_right R)

theorem Own.mem_back {L : List Chunk} {j : Nat} {A A' : Chunk} {O : Old} {h : AHeap} {R : List Chunk} (hj : L[j]? = some A) (k : Own O h (A' :: (L.eraseIdx j ++ R))) : Own O h (L.set j A' ++ R) := by
  refine k.perm ?_
  obtain ⟨hlt, _⟩ := List.getElem?_eq_some_iff.1 hj
  have h1 : (L.set j A')[j]? = some A' := by rw [List.getElem?_set_self hlt]
  have h2 := perm_bring h1
  have h3 : (L.set j A').eraseIdx j = L.eraseIdx j := by rw [List.eraseIdx_set_eq]
  rw [h3] at h2
  exact h2.append_right R

theorem Own.brecs_nil (e : TypeId) (sz : Nat) (u : TypeId) (k : Own O h R) : Own O h (brecs pre e sz u (.slice none 0 0) [] :: R) :=
  brecs_iff.2 ⟨[], rfl, k.nil e sz⟩

theorem Own.brecs_val (k : Own O h (brecs pre e sz u v fs :: R)) : ∃ a cap, v = .slice a fs.length cap := by
  obtain ⟨ac, _, k⟩ := brecs_iff.1 k; exact k.os_val

theorem Own.brecs_read (k : Own O h (brecs pre e sz u v fs :: R)) : BR pre sz h v fs := by
  obtain ⟨ac, ha, k⟩ := brecs_iff.1 k
  refine ⟨ac, ha, k.os_sl, fun j f p hf hp => ?_⟩
  have : (rbods u fs ac)[j]? = some (ob u (.slice p.1 f.2.length p.2) f.2) := by simp [rbods, List.getElem?_zipWith, hf, hp]
  exact (k.tail.mem this).ob_bytes

/-- One record more. -/
theorem Own.brecs_app {P : Program} {t xt : TypeId} {by_ i : Nat} {z : Value} {x : α} {bs : List UInt8} {ba : Option Addr} {bc : Nat} (ht : P.underlying t = some (.slice e)) (hs : tsz P e = some sz) (hb : tby P e = some by_) (hz : tzero P e = some z)
    (hn : noInt P xt = true) (h1 : 0 < by_) (h2 : z.cells.size = sz) (hp : (pre x).length + 1 = sz) (hok : (pre x).all okCell = true) (k : Own O h (brecs pre e sz u v fs :: ob u (.slice ba bs.length bc) bs :: R)) (hi : i = h.next) (hc : (fs.length + 1) * by_ ≤ 140737488355328) :
    ∃ a cap h', appendW P (h.push (.row (pre x ++ [.slice ba bs.length bc]) e sz true false)) t xt v (.slice (some ⟨i, 0, none⟩) 1 1) = some (.slice a (fs.length + 1) cap, h') ∧ Own O h' (brecs pre e sz u (.slice a (fs.length + 1) cap) (fs ++ [(x, bs)]) :: R) := by
  obtain ⟨ac, ha, k⟩ := brecs_iff.1 k
  obtain ⟨a, cap, h', e1, k2⟩ := Own.appN (m := 1) (xs := pre x ++ [.slice ba bs.length bc]) ht hs hb hz hn (by omega) h1 h2 k hi (by simp; omega) (by simp [hok, okCell_slice]) hc
  refine ⟨a, cap, h', e1, brecs_iff.2 ⟨ac ++ [(ba, bc)], by simp [ha], ?_⟩⟩
  have q1 : rcells pre (fs ++ [(x, bs)]) (ac ++ [(ba, bc)]) = rcells pre fs ac ++ [rec1 pre (x, bs) (ba, bc)] := by
    simp only [rcells]; rw [List.zipWith_append ha.symm]; rfl
  have q2 : rbods u (fs ++ [(x, bs)]) (ac ++ [(ba, bc)]) = rbods u fs ac ++ [ob u (.slice ba bs.length bc) bs] := by
    simp only [rbods]; rw [List.zipWith_append ha.symm]; rfl
  rw [q1, q2, List.flatten_append, List.length_append, List.append_assoc]
  simpa [rec1] using k2

/-- A record's bytes, to be turned; and all as it was, but for them. -/
theorem Own.brecs_body (k : Own O h (brecs pre e sz u v fs :: R)) {j : Nat} (hj : j < fs.length) :
    ∃ ac R', ac.length = fs.length ∧ (∀ p, ac[j]? = some p → Own O h (ob u (.slice p.1 fs[j].2.length p.2) fs[j].2 :: R') ∧
      (∀ h, Own O h R' → Sl sz h v fs.length (rcells pre fs ac).flatten) ∧
      ∀ h' bs', bs'.length = fs[j].2.length → Own O h' (ob u (.slice p.1 fs[j].2.length p.2) bs' :: R') → Own O h' (brecs pre e sz u v (fs.set j (fs[j].1, bs')) :: R)) := by
  obtain ⟨ac, ha, k⟩ := brecs_iff.1 k
  refine ⟨ac, (rbods u fs ac).eraseIdx j ++ (os e sz v fs.length (rcells pre fs ac).flatten :: R), ha, fun p hp => ?_⟩
  have hb : (rbods u fs ac)[j]? = some (ob u (.slice p.1 fs[j].2.length p.2) fs[j].2) := by simp [rbods, List.getElem?_zipWith, hp, List.getElem?_eq_getElem hj]
  have sw : ∀ {O : Old} {h : AHeap} {L : List Chunk} {A : Chunk}, Own O h (A :: (L ++ R)) ↔ Own O h (L ++ A :: R) := fun {O h L A} =>
    ⟨fun k => k.perm (List.perm_middle.symm), fun k => k.perm List.perm_middle⟩
  refine ⟨(sw.1 k).mem hb, fun h kr => ?_, fun h' bs' hl k' => ?_⟩
  · have : Own O h (os e sz v fs.length (rcells pre fs ac).flatten :: ((rbods u fs ac).eraseIdx j ++ R)) := sw.2 kr
    exact this.os_sl
  · have k2 := sw.2 (Own.mem_back hb k')
    refine brecs_iff.2 ⟨ac, by simp [ha], ?_⟩
    have q1 : rcells pre (fs.set j (fs[j].1, bs')) ac = rcells pre fs ac := by
      apply List.ext_getElem?
      intro m
      simp only [rcells, List.getElem?_zipWith, List.getElem?_set]
      by_cases hm : j = m
      · subst hm
        simp [hj, hp, rec1, hl]
      · simp [hm]
    have q2 : rbods u (fs.set j (fs[j].1, bs')) ac = (rbods u fs ac).set j (ob u (.slice p.1 fs[j].2.length p.2) bs') := by
      apply List.ext_getElem?
      intro m
      rw [List.getElem?_set, rbods_length ha]
      simp only [rbods, List.getElem?_zipWith, List.getElem?_set]
      by_cases hm : j = m
      · subst hm
        simp [hj, hp, hl]
      · simp [hm]
    rw [q1, q2, List.length_set]
    exact k2

theorem BR.val (k : BR pre sz h v fs) : ∃ a cap, v = .slice a fs.length cap := by
  obtain ⟨ac, _, k, _⟩ := k; exact k.val

theorem rcells_all (hp : ∀ x, (pre x).length + 1 = sz) (ac : List (Option Addr × Nat)) : ∀ y ∈ rcells pre fs ac, y.length = sz := by
  intro y hy
  obtain ⟨m, hm⟩ := List.mem_iff_getElem?.1 hy
  simp only [rcells, List.getElem?_zipWith] at hm
  split at hm
  · obtain rfl := Option.some.inj hm
    simp [rec1, hp]
  · cases hm

/-- A record that is read. -/
theorem BR.at {P : Program} {t : TypeId} (k : BR pre sz h v fs) (hp : ∀ x, (pre x).length + 1 = sz) (ht : P.underlying t = some (.slice e)) (hs : tsz P e = some sz) {j : Nat} (hj : j < fs.length) {kd : IntKind} :
    ∃ i off c e' sz' ti ro a cap, indexAddrP P t v (.int kd j) = some (.pointer (some ⟨i, off, none⟩)) ∧ h.obj i = some (.row c e' sz' ti ro) ∧ off + sz ≤ c.length ∧ (c.drop off).take sz = pre fs[j].1 ++ [.slice a fs[j].2.length cap] ∧
      (∀ f x, (pre fs[j].1 ++ [.slice a fs[j].2.length cap])[f]? = some x → c[off + f]? = some x) ∧ Bytes h (.slice a fs[j].2.length cap) fs[j].2 := by
  obtain ⟨ac, ha, sl, hb⟩ := k
  obtain ⟨i, off, c, e', sz', ti, ro, q1, q2, q3, q4, q5⟩ := sl.record ht hs (rcells_all hp ac) (rcells_length ha) hj (kd := kd)
  have hac : j < ac.length := by omega
  have e1 : (rcells pre fs ac)[j]'(by rw [rcells_length ha]; exact hj) = pre fs[j].1 ++ [.slice ac[j].1 fs[j].2.length ac[j].2] := by simp [rcells, rec1]
  rw [e1] at q4 q5
  exact ⟨i, off, c, e', sz', ti, ro, _, _, q1, q2, q3, q4, q5, hb j fs[j] ac[j] (List.getElem?_eq_getElem hj) (List.getElem?_eq_getElem hac)⟩

theorem BR.of_old {h0 h : AHeap} {L : List Chunk} (k : BR pre sz h0 v fs) (hb : h0.base = h0.next) (o : Own h0.asOld h L) : BR pre sz h v fs := by
  obtain ⟨ac, ha, sl, hx⟩ := k
  exact ⟨ac, ha, sl.of_old hb o, fun j f p hf hp => (hx j f p hf hp).of_old hb o⟩
end

/-! ### A piece's value -/
def sliceV (sz lo hi : Nat) : Value → Value
  | .slice none _ _ => .slice none 0 0
  | .slice (some ⟨i, off, sp⟩) _ cap => if cap = lo then .slice (some ⟨i, off, sp⟩) 0 0 else .slice (some ⟨i, off + lo * sz, sp⟩) (hi - lo) (cap - lo)
  | v => v

theorem Bytes.piece {P : Program} {h : AHeap} {v : Value} {bs : List UInt8} (k : Bytes h v bs) {t e : TypeId} (ht : P.underlying t = some (.slice e)) (hs : tsz P e = some 1) {lo hi : Nat} (h1 : lo ≤ hi) (h2 : hi ≤ bs.length)
    {l u : Option Value} (hl : (l = none ∧ lo = 0) ∨ ∃ kd, l = some (.int kd lo)) (hu : (u = none ∧ hi = bs.length) ∨ ∃ kd, u = some (.int kd hi)) :
    sliceR P h t v l u none = some (sliceV 1 lo hi v) ∧ Bytes h (sliceV 1 lo hi v) ((bs.take hi).drop lo) := by
  obtain ⟨v', e1, b, _⟩ := k.slice ht hs h1 h2 hl hu
  have : v' = sliceV 1 lo hi v := by
    rcases k with ⟨rfl, rfl⟩ | ⟨i, off, cap, c, e', sz, ti, ro, rfl, h3, h4, h5, h6, h7, h8⟩
    · simp at h2
      subst h2
      obtain rfl : lo = 0 := by omega
      rcases hl with ⟨rfl, _⟩ | ⟨kd, rfl⟩ <;> rcases hu with ⟨rfl, _⟩ | ⟨kd', rfl⟩ <;> simp [sliceR, ht, hs, bnds, sb, sliceV] at e1 ⊢ <;> exact e1.symm
    · have hb : bnds bs.length cap l u none = some (lo, hi, cap) := by
        have hc : hi ≤ cap := by omega
        rcases hl with ⟨rfl, hl⟩ | ⟨kd, rfl⟩ <;> rcases hu with ⟨rfl, hu⟩ | ⟨kd', rfl⟩ <;> first
          | (simp [bnds, sb, hc, h1]; done)
          | (simp [bnds, sb, hc, h1]; omega)
          | (subst hu; simp [bnds, sb, h1]; done)
          | (subst hu; simp [bnds, sb, h1]; omega)
      simp only [sliceR, ht, hs, h5, hb] at e1
      rw [if_pos (by rcases h6 with h | h <;> simp [h])] at e1
      exact (Option.some.inj e1).symm
  rw [← this]
  exact ⟨e1, b⟩
end Ab
