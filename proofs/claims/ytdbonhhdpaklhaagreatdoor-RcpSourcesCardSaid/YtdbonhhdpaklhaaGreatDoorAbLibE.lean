import Derived.Test.YtdbonhhdpaklhaaGreatDoorAbLibD
import Derived.Test.YtdbonhhdpaklhaaGreatDoorAbLibC
import Derived.Sort.Row
import Derived.Sort.Grow
import Derived.Sort.EncStr
section
namespace Ab
open Go
set_option autoImplicit false
set_option linter.unusedVariables false
set_option linter.unusedSimpArgs false

/-! ### Drawn regions, with what was read -/
section
variable {P : Program} {ops : Array Oper} {s s2 : St} {h h2 : AHeap}

def obind3 {β : Type} : Option (St × AHeap × List (Nat × Ent)) → (St → AHeap → List (Nat × Ent) → Option β) → Option β
  | some p, k => k p.1 p.2.1 p.2.2
  | none, _ => none
theorem obind3_some {β : Type} {rc : List (Nat × Ent)} {k : St → AHeap → List (Nat × Ent) → Option β} : obind3 (some (s, h, rc)) k = k s h rc := by rw [obind3]

noncomputable def runDR (P : Program) (ops : Array Oper) : List PItem → St → AHeap → List (Nat × Ent) → Option (St × AHeap × List (Nat × Ent))
  | [], s, h, rc => some (s, h, rc)
  | .n i ts :: l, s, h, rc => obind3 (stepD P ops i ts rc s h) (runDR P ops l)
  | .w i ts [] :: l, s, h, rc => obind3 ((stepDW P ops (.w i ts []) s h).map fun p => (p.1, p.2, rc)) (runDR P ops l)
  | .w _ _ (_ :: _) :: _, _, _, _ => none

theorem runDR_nil {rc : List (Nat × Ent)} : runDR P ops [] s h rc = some (s, h, rc) := by rw [runDR]
theorem runDR_n {i : Nat} {ts : List Nat} {l : List PItem} {rc : List (Nat × Ent)} {n : Nat} {L : List (Nat × Value)} : runDR P ops (.n i ts :: l) ⟨n, L⟩ h rc = obind3 (stepD P ops i ts rc ⟨n, L⟩ h) (runDR P ops l) := by rw [runDR]

theorem awpD_of_runDR {Qn : St → AHeap → Prop} : ∀ (l l2 : List PItem) {rc rc' : List (Nat × Ent)} {s s' : St} {h h' : AHeap}, (∀ it ∈ l, ∃ i ts, it = .n i ts) → runDR P ops l s h rc = some (s', h', rc') → awpD P ops Qn l2 rc' s' h' → awpD P ops Qn (l ++ l2) rc s h
  | [], l2, rc, rc', s, s', h, h', _, e, k => by
    simp only [runDR, Option.some.injEq, Prod.mk.injEq] at e
    obtain ⟨rfl, rfl, rfl⟩ := e
    exact k
  | it :: l, l2, rc, rc', s, s', h, h', hn, e, k => by
    obtain ⟨i, ts, rfl⟩ := hn it (by simp)
    have ih := fun {rc s h} e => awpD_of_runDR (Qn := Qn) l l2 (rc := rc) (rc' := rc') (s := s) (h := h) (s' := s') (h' := h') (fun it hi => hn it (by simp [hi])) e k
    have e' : obind3 (stepD P ops i ts rc s h) (runDR P ops l) = some (s', h', rc') := by rw [← e, runDR]
    show awpD P ops Qn (.n i ts :: (l ++ l2)) rc s h
    cases hq : stepD P ops i ts rc s h with
    | none => rw [hq] at e'; cases e'
    | some q =>
    rw [hq] at e'
    unfold stepD at hq
    simp only [awpD]
    split at hq
    · cases hq
    · rename_i o ho
      rw [ho]
      split at hq
      · rename_i hd
        refine ⟨hd, ?_⟩
        split at hq
        · rename_i hg
          rw [hg]
          obtain rfl := Option.some.inj hq
          exact ih e'
        · rename_i hg
          rw [hg]
          simp only []
          split at hq
          · rename_i v hv
            rw [hv]
            obtain rfl := Option.some.inj hq
            exact ih e'
          · rename_i hv
            rw [hv]
            simp only [Option.map_eq_some_iff] at hq
            obtain ⟨⟨v, ob⟩, hv2, rfl⟩ := hq
            simp only [hv2]
            exact ih e'
        · cases hq
      · cases hq

/-- Up to a call, of which what was read ahead of it may hang. -/
theorem awpD_callR {Qn : St → AHeap → Prop} {l : List PItem} (n : Nat) {rc rc2 : List (Nat × Ent)} {i : Nat} {ts rs : List Nat} {o : Oper} {g : FuncId} {args : Array Value}
    (hl : l[n]? = some (.w i ts rs)) (hn : (l.take n).all (fun it => match it with | .n _ _ => true | _ => false) = true) (e : runDR P ops (l.take n) s h rc = some (s2, h2, rc2)) (ho : ops[i]? = some o) (hd : dstOk s2 o.dst = true)
    (hgd : guardA ops (s2.only ts) o.guard = some true) (ec : callOf (s2.only ts) h2 o.op = some (g, args)) (hg : goCall P g = true)
    (k : ACalls P g args h2 fun v h' => still P ops h' rc2 rs ∧ awpD P ops Qn (l.drop (n + 1)) ((i, .w v) :: rc2) (putO s2 o.dst v) h') : awpD P ops Qn l rc s h := by
  have hl2 : l = l.take n ++ .w i ts rs :: l.drop (n + 1) := by
    obtain ⟨hlt, he⟩ := List.getElem?_eq_some_iff.1 hl
    rw [← he, ← List.drop_eq_getElem_cons hlt, List.take_append_drop]
  rw [hl2]
  rw [List.all_eq_true] at hn
  refine awpD_of_runDR _ _ (fun it hi => ?_) e ?_
  · have := hn it hi
    cases it with
    | n i ts => exact ⟨i, ts, rfl⟩
    | w _ _ _ => cases this
  simp only [awpD]
  rw [ho]
  refine ⟨hd, ?_⟩
  rw [hgd]
  exact stepA_call ec hg k

/-- Up to a writing, of which what was read ahead of it may hang. -/
theorem awpD_writeR {Qn : St → AHeap → Prop} {l : List PItem} (n : Nat) {rc rc2 : List (Nat × Ent)} {i : Nat} {ts rs : List Nat} {o : Oper} {v : Value} {h3 : AHeap}
    (hl : l[n]? = some (.w i ts rs)) (hn : (l.take n).all (fun it => match it with | .n _ _ => true | _ => false) = true) (e : runDR P ops (l.take n) s h rc = some (s2, h2, rc2)) (ho : ops[i]? = some o) (hd : dstOk s2 o.dst = true)
    (hgd : guardA ops (s2.only ts) o.guard = some true) (ew : evalOp P h2 (s2.only ts) o.op = some (v, h3)) (hs : still P ops h3 rc2 rs)
    (k : awpD P ops Qn (l.drop (n + 1)) ((i, .w v) :: rc2) (putO s2 o.dst v) h3) : awpD P ops Qn l rc s h := by
  have hl2 : l = l.take n ++ .w i ts rs :: l.drop (n + 1) := by
    obtain ⟨hlt, he⟩ := List.getElem?_eq_some_iff.1 hl
    rw [← he, ← List.drop_eq_getElem_cons hlt, List.take_append_drop]
  rw [hl2]
  rw [List.all_eq_true] at hn
  refine awpD_of_runDR _ _ (fun it hi => ?_) e ?_
  · have := hn it hi
    cases it with
    | n i ts => exact ⟨i, ts, rfl⟩
    | w _ _ _ => cases this
  simp only [awpD]
  rw [ho]
  refine ⟨hd, ?_⟩
  rw [hgd]
  show stepA P o (s2.only ts) h2 _
  unfold stepA
  rw [ew]
  exact ⟨hs, k⟩

theorem awpD_restR {Qn : St → AHeap → Prop} {l : List PItem} {rc rc2 : List (Nat × Ent)} (hn : l.all (fun it => match it with | .n _ _ => true | _ => false) = true) (e : runDR P ops l s h rc = some (s2, h2, rc2)) (k : Qn s2 h2) : awpD P ops Qn l rc s h := by
  rw [List.all_eq_true] at hn
  have := awpD_of_runDR (Qn := Qn) l [] (fun it hi => by
    have := hn it hi
    cases it with
    | n i ts => exact ⟨i, ts, rfl⟩
    | w _ _ _ => cases this) e k
  rwa [List.append_nil] at this
end
attribute [go_sem] obind3_some runDR_nil runDR_n T

/-! ### Bytes and texts that are written -/
section
variable {O : Old} {h : AHeap} {R : List Chunk}
theorem Own.ob_write {P : Program} {t e : TypeId} {v : Value} {bs : List UInt8} (k : Own O h (ob e v bs :: R)) (ht : P.underlying t = some (.slice e)) (hs : tsz P e = some 1) {j : Nat} (hj : j < bs.length) (x : UInt8) {kd : IntKind} :
    ∃ i off c ti, indexAddrP P t v (.int kd j) = some (.pointer (some ⟨i, off, none⟩)) ∧ h.obj i = some (.row c e 1 ti false) ∧ off < c.length ∧ Own O (h.set i (.row (c.set off (.int .u8 x.toNat)) e 1 ti false)) (ob e v (bs.set j x) :: R) := by
  obtain ⟨i, off, c, ti, q1, q2, q3, k2⟩ := k.os_write ht hs hj (.int .u8 x.toNat) (kd := kd)
  refine ⟨i, off, c, ti, q1, q2, q3, ?_⟩
  have e2 : (bs.set j x).map B = (bs.map B).set j (.int .u8 x.toNat) := by rw [List.map_set]; rfl
  unfold ob; rw [e2, List.length_set]; exact k2

theorem Own.ts_write {P : Program} {t e : TypeId} {v : Value} {n : Nat} {ls : List (List UInt8)} (hn : n = ls.length) (k : Own O h (os e 1 v n (ls.map T) :: R)) (ht : P.underlying t = some (.slice e)) (hs : tsz P e = some 1) {j : Nat} (hj : j < n) (x : List UInt8) {kd : IntKind} :
    ∃ i off c ti, indexAddrP P t v (.int kd j) = some (.pointer (some ⟨i, off, none⟩)) ∧ h.obj i = some (.row c e 1 ti false) ∧ off < c.length ∧ Own O (h.set i (.row (c.set off (.string ⟨x.toArray⟩)) e 1 ti false)) (os e 1 v n ((ls.set j x).map T) :: R) := by
  obtain ⟨i, off, c, ti, q1, q2, q3, k2⟩ := k.os_write ht hs hj (.string ⟨x.toArray⟩) (kd := kd)
  refine ⟨i, off, c, ti, q1, q2, q3, ?_⟩
  rw [List.map_set]; exact k2

/-- A copy: what is put behind nothing. -/
theorem Own.copy {P : Program} {t xt e : TypeId} {xv : Value} {xs : List UInt8} (ht : P.underlying t = some (.slice e)) (hs : tsz P e = some 1) (hb : tby P e = some 1) (hz : tzero P e = some (.int .u8 0))
    (hn : noInt P xt = true) (k : Own O h R) (hx : ∀ h, Own O h R → Bytes h xv xs) (hc : xs.length ≤ 140737488355328) {i : Nat} (hi : i = h.next) :
    ∃ a cap h', appendW P (h.push (.row [] e 1 true false)) t xt (.slice (some ⟨i, 0, none⟩) 0 0) xv = some (.slice a xs.length cap, h') ∧ Own O h' (ob e (.slice a xs.length cap) xs :: R) := by
  subst hi
  have k1 : Own O (h.push (.row [] e 1 true false)) (ob e (.slice (some ⟨h.next, 0, none⟩) 0 0) [] :: R) := (k.push (.row [] e 1 true false)).os_mk (Nat.le_refl _) (by simp) (by simp)
  obtain ⟨a, cap, h', e1, k2⟩ := k1.appB ht hs hb hz hn (hx _ k1.tail).src (by simpa using hc)
  simp only [List.length_nil, Nat.zero_add, List.nil_append] at e1 k2
  exact ⟨a, cap, h', e1, k2⟩
end

/-! ### Texts as bytes, and byte by byte -/
theorem rowB {O : Old} {h : AHeap} {R : List Chunk} {i : Nat} {e : TypeId} {bs : List UInt8} {cs : List Value} {n : Nat} {ti : Bool} (k : Own O h (cell i (.row cs e 1 ti false) :: R)) (hc : cs = bs.map B) (hn : n = bs.length) : Bytes h (.slice (some ⟨i, 0, none⟩) n n) bs := by
  subst hn hc
  exact (k.os_mk (n := bs.length) (off := 0) (cap := bs.length) (cs := bs.map B) (Nat.le_refl _) (by simp) (by simp [List.take_of_length_le])).ob_bytes

theorem str_index {P : Program} {t : TypeId} (ht : P.underlying t = some .string) {l : List UInt8} {j : Nat} (hj : j < l.length) {kd : IntKind} : indexP P t (.string ⟨l.toArray⟩) (.int kd j) = some (.int .u8 l[j].toNat) := by
  have e : (⟨l.toArray⟩ : ByteArray)[j]? = some l[j] := by
    have : j < (⟨l.toArray⟩ : ByteArray).size := hj
    exact (getElem?_pos (⟨l.toArray⟩ : ByteArray) j this).trans rfl
  simp only [indexP, ht, Int.natCast_nonneg, if_true, Int.toNat_natCast, e]

theorem and_one (j : Nat) (hj : j < 9223372036854775808) : ((BitVec.ofInt 64 (j : Int) &&& BitVec.ofInt 64 1).toNat : Int) = ((j % 2 : Nat) : Int) := by
  rw [BitVec.ofInt_natCast, show BitVec.ofInt 64 1 = BitVec.ofNat 64 1 from rfl, BitVec.toNat_and, BitVec.toNat_ofNat, BitVec.toNat_ofNat, Nat.mod_eq_of_lt (by omega), show 1 % 2 ^ 64 = 1 from rfl, Nat.and_one_is_mod]

/-! ### Bits of numbers that are not below 0 -/
theorem and_i64 (a b : Nat) : @BitVec.toNat 64 (@HAnd.hAnd (BitVec 64) (BitVec 64) (BitVec 64) (@instHAndOfAndOp (BitVec IntKind.i64.bits) (@BitVec.instAndOp IntKind.i64.bits)) (BitVec.ofNat 64 a) (BitVec.ofNat 64 b)) = (a % 18446744073709551616) &&& (b % 18446744073709551616) :=
  (BitVec.toNat_and (BitVec.ofNat 64 a) (BitVec.ofNat 64 b)).trans rfl
theorem or_i64 (a b : Nat) : @BitVec.toNat 64 (@HOr.hOr (BitVec 64) (BitVec 64) (BitVec 64) (@instHOrOfOrOp (BitVec IntKind.i64.bits) (@BitVec.instOrOp IntKind.i64.bits)) (BitVec.ofNat 64 a) (BitVec.ofNat 64 b)) = (a % 18446744073709551616) ||| (b % 18446744073709551616) :=
  (BitVec.toNat_or (BitVec.ofNat 64 a) (BitVec.ofNat 64 b)).trans rfl
attribute [go_sem] and_i64 or_i64
end Ab
end

section
namespace Ab
open Go
set_option autoImplicit false
set_option linter.unusedVariables false
set_option linter.unusedSimpArgs false

/-! ### Slices of records, of which the last field is a slice of bytes -/
theorem flat_get {α : Type} {sz : Nat} : ∀ {l : List (List α)} {j f : Nat}, (∀ x ∈ l, x.length = sz) → f < sz → l.flatten[j * sz + f]? = l[j]?.bind (·[f]?)
  | [], j, f, _, _ => by simp
  | x :: l, 0, f, h, hf => by
    have := h x (by simp)
    rw [List.flatten_cons, List.getElem?_append_left (by omega)]; simp
  | x :: l, j + 1, f, h, hf => by
    have hx := h x (by simp)
    have := flat_get (l := l) (j := j) (f := f) (fun y hy => h y (by simp [hy])) hf
    rw [List.flatten_cons, List.getElem?_append_right (by rw [hx, Nat.add_mul]; omega), hx, show (j + 1) * sz + f - sz = j * sz + f by rw [Nat.add_mul]; omega, this]
    simp

theorem flat_length {α : Type} {sz : Nat} : ∀ {l : List (List α)}, (∀ x ∈ l, x.length = sz) → l.flatten.length = l.length * sz
  | [], _ => by simp
  | x :: l, h => by
    rw [List.flatten_cons, List.length_append, h x (by simp), flat_length fun y hy => h y (by simp [hy]), List.length_cons, Nat.add_mul]; omega

/-- An element of a slice of records. -/
theorem Sl.record {P : Program} {sz n : Nat} {h : AHeap} {v : Value} {l : List (List Value)} {t e : TypeId} (ht : P.underlying t = some (.slice e)) (hs : tsz P e = some sz) (k : Sl sz h v n l.flatten) (hall : ∀ x ∈ l, x.length = sz) (hn : l.length = n) {j : Nat} (hj : j < n) {kd : IntKind} :
    ∃ i off c e' sz' ti ro, indexAddrP P t v (.int kd j) = some (.pointer (some ⟨i, off, none⟩)) ∧ h.obj i = some (.row c e' sz' ti ro) ∧ off + sz ≤ c.length ∧ (c.drop off).take sz = l[j]'(by omega) ∧ ∀ f x, (l[j]'(by omega))[f]? = some x → c[off + f]? = some x := by
  obtain ⟨i, off, c, e', sz', ti, ro, h1, _, _, h4, h5, h6⟩ := k.at ht hs hj (kd := kd)
  have hjl : j < l.length := by omega
  have hlj := hall l[j] (List.getElem_mem hjl)
  have e1 : (c.drop off).take sz = l[j] := by
    rw [h6]
    apply List.ext_getElem?
    intro f
    rw [List.getElem?_take]
    split
    · rename_i hf
      rw [List.getElem?_drop, flat_get hall hf, List.getElem?_eq_getElem hjl]; rfl
    · rw [List.getElem?_eq_none (by omega)]
  refine ⟨i, off, c, e', sz', ti, ro, h1, h4, h5, e1, fun f x hx => ?_⟩
  rw [← e1, List.getElem?_take] at hx
  split at hx
  · rw [List.getElem?_drop] at hx; exact hx
  · cases hx

section
variable {α : Type} (pre : α → List Value)

def rec1 (x : α × List UInt8) (p : Option Addr × Nat) : List Value := pre x.1 ++ [.slice p.1 x.2.length p.2]
def rcells (fs : List (α × List UInt8)) (ac : List (Option Addr × Nat)) : List (List Value) := List.zipWith (rec1 pre) fs ac
def rbods (u : TypeId) (fs : List (α × List UInt8)) (ac : List (Option Addr × Nat)) : List Chunk := List.zipWith (fun (f : α × List UInt8) (p : Option Addr × Nat) => ob u (.slice p.1 f.2.length p.2) f.2) fs ac

/-- Records that are one's own. -/
def brecs (e : TypeId) (sz : Nat) (u : TypeId) (v : Value) (fs : List (α × List UInt8)) : Chunk := ex fun ac => pur (ac.length = fs.length) (star (os e sz v fs.length (rcells pre fs ac).flatten :: rbods u fs ac))

/-- Records that are read. -/
def BR (sz : Nat) (h : AHeap) (v : Value) (fs : List (α × List UInt8)) : Prop :=
  ∃ ac : List (Option Addr × Nat), ac.length = fs.length ∧ Sl sz h v fs.length (rcells pre fs ac).flatten ∧ ∀ (j : Nat) (f : α × List UInt8) (p : Option Addr × Nat), fs[j]? = some f → ac[j]? = some p → Bytes h (.slice p.1 f.2.length p.2) f.2

variable {pre} {O : Old} {h : AHeap} {R : List Chunk} {e u : TypeId} {sz : Nat} {v : Value} {fs : List (α × List UInt8)}

theorem brecs_iff : Own O h (brecs pre e sz u v fs :: R) ↔ ∃ ac : List (Option Addr × Nat), ac.length = fs.length ∧ Own O h (os e sz v fs.length (rcells pre fs ac).flatten :: (rbods u fs ac ++ R)) := by
  simp only [brecs, Own.ex_iff, Own.pur_iff, Own.star_iff, List.cons_append]

theorem rcells_length {ac : List (Option Addr × Nat)} (ha : ac.length = fs.length) : (rcells pre fs ac).length = fs.length := by simp [rcells, ha]
theorem rbods_length {ac : List (Option Addr × Nat)} (ha : ac.length = fs.length) : (rbods u fs ac).length = fs.length := by simp [rbods, ha]

theorem Own.mem {L : List Chunk} {j : Nat} {A : Chunk} (k : Own O h (L ++ R)) (hj : L[j]? = some A) : Own O h (A :: (L.eraseIdx j ++ R)) := by
  refine k.perm ?_
  have := perm_bring hj
  exact (this.symm.append_right R)

theorem Own.mem_back {L : List Chunk} {j : Nat} {A A' : Chunk} {O : Old} {h : AHeap} {R : List Chunk} (hj : L[j]? = some A) (k : Own O h (A' :: (L.eraseIdx j ++ R))) : Own O h (L.set j A' ++ R) := by
  refine k.perm ?_
  obtain ⟨hlt, _⟩ := List.getElem?_eq_some_iff.1 hj
  have h1 : (L.set j A')[j]? = some A' := by rw [List.getElem?_set_self hlt]
  have h2 := perm_bring h1
  have h3 : (L.set j A').eraseIdx j = L.eraseIdx j := by rw [List.eraseIdx_set_eq]
  rw [h3] at h2
  exact h2.append_right R

theorem Own.brecs_nil (e : TypeId) (sz : Nat) (u : TypeId) (k : Own O h R) : Own O h (brecs pre e sz u (.slice none 0 0) [] :: R) :=
  brecs_iff.2 ⟨[], rfl, k.nil e sz⟩

theorem Own.brecs_val (k : Own O h (brecs pre e sz u v fs :: R)) : ∃ a cap, v = .slice a fs.length cap := by
  obtain ⟨ac, _, k⟩ := brecs_iff.1 k; exact k.os_val

theorem Own.brecs_read (k : Own O h (brecs pre e sz u v fs :: R)) : BR pre sz h v fs := by
  obtain ⟨ac, ha, k⟩ := brecs_iff.1 k
  refine ⟨ac, ha, k.os_sl, fun j f p hf hp => ?_⟩
  have : (rbods u fs ac)[j]? = some (ob u (.slice p.1 f.2.length p.2) f.2) := by simp [rbods, List.getElem?_zipWith, hf, hp]
  exact (k.tail.mem this).ob_bytes

/-- One record more. -/
theorem Own.brecs_app {P : Program} {t xt : TypeId} {by_ i : Nat} {z : Value} {x : α} {bs : List UInt8} {ba : Option Addr} {bc : Nat} (ht : P.underlying t = some (.slice e)) (hs : tsz P e = some sz) (hb : tby P e = some by_) (hz : tzero P e = some z)
    (hn : noInt P xt = true) (h1 : 0 < by_) (h2 : z.cells.size = sz) (hp : (pre x).length + 1 = sz) (hok : (pre x).all okCell = true) (k : Own O h (brecs pre e sz u v fs :: ob u (.slice ba bs.length bc) bs :: R)) (hi : i = h.next) (hc : (fs.length + 1) * by_ ≤ 140737488355328) :
    ∃ a cap h', appendW P (h.push (.row (pre x ++ [.slice ba bs.length bc]) e sz true false)) t xt v (.slice (some ⟨i, 0, none⟩) 1 1) = some (.slice a (fs.length + 1) cap, h') ∧ Own O h' (brecs pre e sz u (.slice a (fs.length + 1) cap) (fs ++ [(x, bs)]) :: R) := by
  obtain ⟨ac, ha, k⟩ := brecs_iff.1 k
  obtain ⟨a, cap, h', e1, k2⟩ := Own.appN (m := 1) (xs := pre x ++ [.slice ba bs.length bc]) ht hs hb hz hn (by omega) h1 h2 k hi (by simp; omega) (by simp [hok, okCell_slice]) hc
  refine ⟨a, cap, h', e1, brecs_iff.2 ⟨ac ++ [(ba, bc)], by simp [ha], ?_⟩⟩
  have q1 : rcells pre (fs ++ [(x, bs)]) (ac ++ [(ba, bc)]) = rcells pre fs ac ++ [rec1 pre (x, bs) (ba, bc)] := by
    simp only [rcells]; rw [List.zipWith_append ha.symm]; rfl
  have q2 : rbods u (fs ++ [(x, bs)]) (ac ++ [(ba, bc)]) = rbods u fs ac ++ [ob u (.slice ba bs.length bc) bs] := by
    simp only [rbods]; rw [List.zipWith_append ha.symm]; rfl
  rw [q1, q2, List.flatten_append, List.length_append, List.append_assoc]
  simpa [rec1] using k2

/-- A record's bytes, to be turned; and all as it was, but for them. -/
theorem Own.brecs_body (k : Own O h (brecs pre e sz u v fs :: R)) {j : Nat} (hj : j < fs.length) :
    ∃ ac R', ac.length = fs.length ∧ (∀ p, ac[j]? = some p → Own O h (ob u (.slice p.1 fs[j].2.length p.2) fs[j].2 :: R') ∧
      (∀ h, Own O h R' → Sl sz h v fs.length (rcells pre fs ac).flatten) ∧
      ∀ h' bs', bs'.length = fs[j].2.length → Own O h' (ob u (.slice p.1 fs[j].2.length p.2) bs' :: R') → Own O h' (brecs pre e sz u v (fs.set j (fs[j].1, bs')) :: R)) := by
  obtain ⟨ac, ha, k⟩ := brecs_iff.1 k
  refine ⟨ac, (rbods u fs ac).eraseIdx j ++ (os e sz v fs.length (rcells pre fs ac).flatten :: R), ha, fun p hp => ?_⟩
  have hb : (rbods u fs ac)[j]? = some (ob u (.slice p.1 fs[j].2.length p.2) fs[j].2) := by simp [rbods, List.getElem?_zipWith, hp, List.getElem?_eq_getElem hj]
  have sw : ∀ {O : Old} {h : AHeap} {L : List Chunk} {A : Chunk}, Own O h (A :: (L ++ R)) ↔ Own O h (L ++ A :: R) := fun {O h L A} =>
    ⟨fun k => k.perm (List.perm_middle.symm), fun k => k.perm List.perm_middle⟩
  refine ⟨(sw.1 k).mem hb, fun h kr => ?_, fun h' bs' hl k' => ?_⟩
  · have : Own O h (os e sz v fs.length (rcells pre fs ac).flatten :: ((rbods u fs ac).eraseIdx j ++ R)) := sw.2 kr
    exact this.os_sl
  · have k2 := sw.2 (Own.mem_back hb k')
    refine brecs_iff.2 ⟨ac, by simp [ha], ?_⟩
    have q1 : rcells pre (fs.set j (fs[j].1, bs')) ac = rcells pre fs ac := by
      apply List.ext_getElem?
      intro m
      simp only [rcells, List.getElem?_zipWith, List.getElem?_set]
      by_cases hm : j = m
      · subst hm
        simp [hj, hp, rec1, hl]
      · simp [hm]
    have q2 : rbods u (fs.set j (fs[j].1, bs')) ac = (rbods u fs ac).set j (ob u (.slice p.1 fs[j].2.length p.2) bs') := by
      apply List.ext_getElem?
      intro m
      rw [List.getElem?_set, rbods_length ha]
      simp only [rbods, List.getElem?_zipWith, List.getElem?_set]
      by_cases hm : j = m
      · subst hm
        simp [hj, hp, hl]
      · simp [hm]
    rw [q1, q2, List.length_set]
    exact k2

theorem BR.val (k : BR pre sz h v fs) : ∃ a cap, v = .slice a fs.length cap := by
  obtain ⟨ac, _, k, _⟩ := k; exact k.val

theorem rcells_all (hp : ∀ x, (pre x).length + 1 = sz) (ac : List (Option Addr × Nat)) : ∀ y ∈ rcells pre fs ac, y.length = sz := by
  intro y hy
  obtain ⟨m, hm⟩ := List.mem_iff_getElem?.1 hy
  simp only [rcells, List.getElem?_zipWith] at hm
  split at hm
  · obtain rfl := Option.some.inj hm
    simp [rec1, hp]
  · cases hm

/-- A record that is read. -/
theorem BR.at {P : Program} {t : TypeId} (k : BR pre sz h v fs) (hp : ∀ x, (pre x).length + 1 = sz) (ht : P.underlying t = some (.slice e)) (hs : tsz P e = some sz) {j : Nat} (hj : j < fs.length) {kd : IntKind} :
    ∃ i off c e' sz' ti ro a cap, indexAddrP P t v (.int kd j) = some (.pointer (some ⟨i, off, none⟩)) ∧ h.obj i = some (.row c e' sz' ti ro) ∧ off + sz ≤ c.length ∧ (c.drop off).take sz = pre fs[j].1 ++ [.slice a fs[j].2.length cap] ∧
      (∀ f x, (pre fs[j].1 ++ [.slice a fs[j].2.length cap])[f]? = some x → c[off + f]? = some x) ∧ Bytes h (.slice a fs[j].2.length cap) fs[j].2 := by
  obtain ⟨ac, ha, sl, hb⟩ := k
  obtain ⟨i, off, c, e', sz', ti, ro, q1, q2, q3, q4, q5⟩ := sl.record ht hs (rcells_all hp ac) (rcells_length ha) hj (kd := kd)
  have hac : j < ac.length := by omega
  have e1 : (rcells pre fs ac)[j]'(by rw [rcells_length ha]; exact hj) = pre fs[j].1 ++ [.slice ac[j].1 fs[j].2.length ac[j].2] := by simp [rcells, rec1]
  rw [e1] at q4 q5
  exact ⟨i, off, c, e', sz', ti, ro, _, _, q1, q2, q3, q4, q5, hb j fs[j] ac[j] (List.getElem?_eq_getElem hj) (List.getElem?_eq_getElem hac)⟩

theorem BR.of_old {h0 h : AHeap} {L : List Chunk} (k : BR pre sz h0 v fs) (hb : h0.base = h0.next) (o : Own h0.asOld h L) : BR pre sz h v fs := by
  obtain ⟨ac, ha, sl, hx⟩ := k
  exact ⟨ac, ha, sl.of_old hb o, fun j f p hf hp => (hx j f p hf hp).of_old hb o⟩
end

/-! ### A piece's value -/
def sliceV (sz lo hi : Nat) : Value → Value
  | .slice none _ _ => .slice none 0 0
  | .slice (some ⟨i, off, sp⟩) _ cap => if cap = lo then .slice (some ⟨i, off, sp⟩) 0 0 else .slice (some ⟨i, off + lo * sz, sp⟩) (hi - lo) (cap - lo)
  | v => v

theorem Bytes.piece {P : Program} {h : AHeap} {v : Value} {bs : List UInt8} (k : Bytes h v bs) {t e : TypeId} (ht : P.underlying t = some (.slice e)) (hs : tsz P e = some 1) {lo hi : Nat} (h1 : lo ≤ hi) (h2 : hi ≤ bs.length)
    {l u : Option Value} (hl : (l = none ∧ lo = 0) ∨ ∃ kd, l = some (.int kd lo)) (hu : (u = none ∧ hi = bs.length) ∨ ∃ kd, u = some (.int kd hi)) :
    sliceR P h t v l u none = some (sliceV 1 lo hi v) ∧ Bytes h (sliceV 1 lo hi v) ((bs.take hi).drop lo) := by
  obtain ⟨v', e1, b, _⟩ := k.slice ht hs h1 h2 hl hu
  have : v' = sliceV 1 lo hi v := by
    rcases k with ⟨rfl, rfl⟩ | ⟨i, off, cap, c, e', sz, ti, ro, rfl, h3, h4, h5, h6, h7, h8⟩
    · simp at h2
      subst h2
      obtain rfl : lo = 0 := by omega
      rcases hl with ⟨rfl, _⟩ | ⟨kd, rfl⟩ <;> rcases hu with ⟨rfl, _⟩ | ⟨kd', rfl⟩ <;> simp [sliceR, ht, hs, bnds, sb, sliceV] at e1 ⊢ <;> exact e1.symm
    · have hb : bnds bs.length cap l u none = some (lo, hi, cap) := by
        have hc : hi ≤ cap := by omega
        rcases hl with ⟨rfl, hl⟩ | ⟨kd, rfl⟩ <;> rcases hu with ⟨rfl, hu⟩ | ⟨kd', rfl⟩ <;> first
          | (simp [bnds, sb, hc, h1]; done)
          | (simp [bnds, sb, hc, h1]; omega)
          | (subst hu; simp [bnds, sb, h1]; done)
          | (subst hu; simp [bnds, sb, h1]; omega)
      simp only [sliceR, ht, hs, h5, hb] at e1
      rw [if_pos (by rcases h6 with h | h <;> simp [h])] at e1
      exact (Option.some.inj e1).symm
  rw [← this]
  exact ⟨e1, b⟩
end Ab
end

section
namespace Ab
open Go
set_option autoImplicit false
set_option linter.unusedVariables false
set_option linter.unusedSimpArgs false

/-- A piece of a slice that is read. -/
theorem Sl.piece {P : Program} {h : AHeap} {sz n : Nat} {v : Value} {cs : List Value} (k : Sl sz h v n cs) {t e : TypeId} (ht : P.underlying t = some (.slice e)) (hs : tsz P e = some sz) {lo hi : Nat} (h1 : lo ≤ hi) (h2 : hi ≤ n)
    {l u : Option Value} (hl : (l = none ∧ lo = 0) ∨ ∃ kd, l = some (.int kd lo)) (hu : (u = none ∧ hi = n) ∨ ∃ kd, u = some (.int kd hi)) :
    sliceR P h t v l u none = some (sliceV sz lo hi v) ∧ Sl sz h (sliceV sz lo hi v) (hi - lo) ((cs.drop (lo * sz)).take ((hi - lo) * sz)) := by
  rcases k with ⟨rfl, rfl, rfl⟩ | ⟨i, off, cap, c, e', esz, ti, ro, rfl, h3, h4, h5, h6, h7, rfl⟩
  · obtain rfl : hi = 0 := by omega
    obtain rfl : lo = 0 := by omega
    refine ⟨?_, .inl ⟨rfl, by simp, by simp⟩⟩
    rcases hl with ⟨rfl, _⟩ | ⟨kd, rfl⟩ <;> rcases hu with ⟨rfl, _⟩ | ⟨kd', rfl⟩ <;> simp [sliceR, ht, hs, bnds, sb, sliceV]
  · have hb : bnds n cap l u none = some (lo, hi, cap) := by
      have hc : hi ≤ cap := by omega
      rcases hl with ⟨rfl, hl⟩ | ⟨kd, rfl⟩ <;> rcases hu with ⟨rfl, hu⟩ | ⟨kd', rfl⟩ <;> first
        | (simp [bnds, sb, hc, h1]; done)
        | (simp [bnds, sb, hc, h1]; omega)
        | (subst hu; simp [bnds, sb, h1]; done)
        | (subst hu; simp [bnds, sb, h1]; omega)
    have hmul := Nat.mul_le_mul_right sz h2
    have hm : lo * sz + (hi - lo) * sz = hi * sz := by rw [← Nat.add_mul]; congr 1; omega
    have e2 : ((((c.drop off).take (n * sz)).drop (lo * sz)).take ((hi - lo) * sz)) = (c.drop (off + lo * sz)).take ((hi - lo) * sz) := by
      rw [List.drop_take, List.drop_drop, List.take_take, Nat.min_eq_left]
      omega
    refine ⟨?_, ?_⟩
    · simp only [sliceR, ht, hs, h5, hb]; rw [if_pos (by rcases h6 with h | h <;> simp [h])]; rfl
    · rw [e2]
      simp only [sliceV]
      split
      · have h0 : hi - lo = 0 := by omega
        rw [h0]
        exact .inr ⟨i, off, 0, c, e', esz, ti, ro, rfl, Nat.le_refl _, h4, h5, h6, by omega, by simp⟩
      · exact .inr ⟨i, off + lo * sz, cap - lo, c, e', esz, ti, ro, rfl, by omega, h4, h5, h6, by omega, rfl⟩

section
variable {α : Type} {pre : α → List Value} {h : AHeap} {sz : Nat} {v : Value} {fs : List (α × List UInt8)}

theorem flat_piece {β : Type} {sz : Nat} : ∀ {l : List (List β)} (lo k : Nat), (∀ x ∈ l, x.length = sz) → lo + k ≤ l.length → (l.flatten.drop (lo * sz)).take (k * sz) = ((l.drop lo).take k).flatten
  | [], lo, k, _, hl => by
    simp at hl
    obtain ⟨rfl, rfl⟩ := hl
    simp
  | x :: l, 0, 0, _, _ => by simp
  | x :: l, 0, k + 1, ha, hl => by
    have hx := ha x (List.mem_cons_self ..)
    have ih := flat_piece (l := l) 0 k (fun y hy => ha y (List.mem_cons_of_mem _ hy)) (by simp at hl; omega)
    simp only [Nat.zero_mul, List.drop_zero] at ih ⊢
    rw [List.flatten_cons, List.take_succ_cons, List.flatten_cons, Nat.add_mul, Nat.one_mul, Nat.add_comm, List.take_append, hx, List.take_of_length_le (by omega), Nat.add_sub_cancel_left, ih]
  | x :: l, lo + 1, k, ha, hl => by
    have hx := ha x (List.mem_cons_self ..)
    have ih := flat_piece (l := l) lo k (fun y hy => ha y (List.mem_cons_of_mem _ hy)) (by simp at hl; omega)
    rw [List.flatten_cons, List.drop_succ_cons, ← ih, Nat.add_mul, Nat.one_mul, Nat.add_comm, List.drop_append, hx, List.drop_of_length_le (by omega), List.nil_append, Nat.add_sub_cancel_left]

/-- A piece of records that are read. -/
theorem BR.piece {P : Program} {t e : TypeId} (k : BR pre sz h v fs) (hp : ∀ x, (pre x).length + 1 = sz) (ht : P.underlying t = some (.slice e)) (hs : tsz P e = some sz) {lo hi : Nat} (h1 : lo ≤ hi) (h2 : hi ≤ fs.length)
    {l u : Option Value} (hl : (l = none ∧ lo = 0) ∨ ∃ kd, l = some (.int kd lo)) (hu : (u = none ∧ hi = fs.length) ∨ ∃ kd, u = some (.int kd hi)) :
    sliceR P h t v l u none = some (sliceV sz lo hi v) ∧ BR pre sz h (sliceV sz lo hi v) ((fs.drop lo).take (hi - lo)) := by
  obtain ⟨ac, ha, sl, hb⟩ := k
  obtain ⟨e1, s2⟩ := sl.piece (P := P) ht hs h1 h2 hl hu
  refine ⟨e1, (ac.drop lo).take (hi - lo), by simp [ha], ?_, fun j f p hf hpp => ?_⟩
  · have q : rcells pre ((fs.drop lo).take (hi - lo)) ((ac.drop lo).take (hi - lo)) = ((rcells pre fs ac).drop lo).take (hi - lo) := by
      simp only [rcells]
      rw [List.drop_zipWith, List.take_zipWith]
    rw [q, ← flat_piece lo (hi - lo) (rcells_all hp ac) (by rw [rcells_length ha]; omega)]
    have : ((fs.drop lo).take (hi - lo)).length = hi - lo := by simp; omega
    rw [this]; exact s2
  · rw [List.getElem?_take] at hf hpp
    split at hf
    · rename_i hj
      rw [if_pos hj] at hpp
      rw [List.getElem?_drop] at hf hpp
      exact hb _ f p hf hpp
    · cases hf
end
end Ab
end

section
namespace Ab
open Go
set_option autoImplicit false
set_option linter.unusedVariables false
set_option linter.unusedSimpArgs false

/-- Ways that meet again, where the walk already stands at the parting. -/
theorem AWP.cutT {P : Program} {Q Q2 : Exit → St → AHeap → Prop} {s : St} {h : AHeap} {x y : Code} (ts : List Nat) (I : St → AHeap → Prop) (k : AWP P x (thn (fun s h => I (s.only ts) h) Q2) s h) (k2 : ∀ s h, I s h → AWP P y Q s h) : AWP P x (thn (AWP P y Q) Q2) s h :=
  k.mono fun e s h q => by cases e <;> first | exact AWP.only ts (k2 _ _ q) | exact q

/-! ### Pieces in another order, and some let go -/
/-- A stands in L; the others are L'. -/
inductive Fnd : List Chunk → Chunk → List Chunk → Prop
  | head (A : Chunk) (L : List Chunk) : Fnd (A :: L) A L
  | tail (A B : Chunk) (L L' : List Chunk) : Fnd L A L' → Fnd (B :: L) A (B :: L')
theorem Fnd.perm {L L' : List Chunk} {A : Chunk} (h : Fnd L A L') : L.Perm (A :: L') := by
  induction h with
  | head A L => exact List.Perm.refl _
  | tail A B L L' _ ih => exact (ih.cons B).trans (List.Perm.swap A B L')
inductive Sbl : List Chunk → List Chunk → Prop
  | rfl (L : List Chunk) : Sbl L L
  | nil (L : List Chunk) : Sbl L []
  | skip (A : Chunk) (L R : List Chunk) : Sbl L R → Sbl (A :: L) R
  | cons (A : Chunk) (L L' T : List Chunk) : Fnd L A L' → Sbl L' T → Sbl L (A :: T)
theorem Sat.sbl {L T : List Chunk} (s : Sbl L T) : ∀ {g : PH}, Sat g L → Sat g T := by
  induction s with
  | rfl L => exact fun h => h
  | nil L => exact fun _ => trivial
  | skip A L R _ ih => exact fun ⟨f, a, l, k⟩ => ih (k.mono PH.minus_le)
  | cons A L L' T f _ ih =>
    intro g h
    obtain ⟨p, a, l, k⟩ := h.perm f.perm
    exact ⟨p, a, l, ih k⟩
theorem Own.sbl {O : Old} {h : AHeap} {L T : List Chunk} (s : Sbl L T) (k : Own O h L) : Own O h T := k.weaken fun h => Sat.sbl s h
theorem AWP.cut2 {P : Program} {Q Q1 Q2 : Exit → St → AHeap → Prop} {s : St} {h : AHeap} {x y z : Code} (ts : List Nat) (I : St → AHeap → Prop) (k : AWP P x (thn (AWP P y (thn (fun s h => I (s.only ts) h) Q1)) Q2) s h) (k2 : ∀ s h, I s h → AWP P z Q s h) : AWP P x (thn (AWP P y (thn (AWP P z Q) Q1)) Q2) s h :=
  k.mono fun e s h q => by cases e <;> first | exact AWP.cutT ts I q k2 | exact q

/-- Some low bits of a number. -/
theorem and_mask (z : Int) (m : Nat) (hm : m < 9223372036854775808) : ∃ x : Nat, x ≤ m ∧ IntKind.i64.wrap ((@BitVec.toNat 64 (@HAnd.hAnd (BitVec 64) (BitVec 64) (BitVec 64) (@instHAndOfAndOp (BitVec IntKind.i64.bits) (@BitVec.instAndOp IntKind.i64.bits)) (BitVec.ofInt 64 z) (BitVec.ofNat 64 m)) : Nat) : Int) = (x : Int) := by
  have h : (BitVec.ofInt 64 z &&& BitVec.ofNat 64 m).toNat ≤ m := by
    rw [BitVec.toNat_and, BitVec.toNat_ofNat]
    refine Nat.le_trans Nat.and_le_right (Nat.mod_le _ _)
  exact ⟨_, h, wI64 (by omega) (by exact Int.le_trans (Int.ofNat_le.2 h) (by omega))⟩
theorem tmod_nat (a b : Nat) : (a : Int).tmod (b : Int) = ((a % b : Nat) : Int) := rfl

theorem setL_full : ∀ (vs pre zs : List Value), zs.length = vs.length → setL (pre ++ zs) pre.length vs = pre ++ vs
  | [], pre, zs, h => by
    obtain rfl : zs = [] := List.length_eq_zero_iff.1 (by simpa using h)
    simp [setL]
  | v :: vs, pre, [], h => by simp at h
  | v :: vs, pre, z :: zs, h => by
    rw [setL]
    have e : (pre ++ z :: zs).set pre.length v = (pre ++ [v]) ++ zs := by simp
    have e2 : pre.length + 1 = (pre ++ [v]).length := by simp
    rw [e, e2, setL_full vs (pre ++ [v]) zs (by simpa using h)]
    simp
theorem okAll_B (bs : List UInt8) : okAll (bs.map B) = true := by
  induction bs with
  | nil => rfl
  | cons b bs ih => simp [okAll, ih, B, go_sem]
attribute [go_sem] okAll_B

/-! ### Two and three new objects -/
section
variable (h : AHeap) (a b c : AObj)
theorem push2_0 : ((h.push a).push b).obj h.next = some a := by rw [push_ne _ _ _ (by rw [push_next]; omega), push_self]
theorem push2_1 : ((h.push a).push b).obj (h.next + 1) = some b := push_self (h.push a) b
theorem push3_0 : (((h.push a).push b).push c).obj h.next = some a := by rw [push_ne _ _ _ (by rw [push_next, push_next]; omega), push2_0]
theorem push3_1 : (((h.push a).push b).push c).obj (h.next + 1) = some b := by rw [push_ne _ _ _ (by rw [push_next, push_next]; omega), push2_1]
theorem push3_2 : (((h.push a).push b).push c).obj (h.next + 1 + 1) = some c := push_self ((h.push a).push b) c
theorem push3_2' : (((h.push a).push b).push c).obj (h.next + 2) = some c := push_self ((h.push a).push b) c
end
attribute [go_sem] push2_0 push2_1 push3_0 push3_1 push3_2 push3_2'

/-! ### Records, whole -/
theorem foldl_full : ∀ (vs pre zs : List Value) (k off : Nat), zs.length = vs.length → pre.length = off + k → (vs.zipIdx k).foldl (fun (cs : Array Value) p => cs.setIfInBounds (off + p.2) p.1) (pre ++ zs).toArray = (pre ++ vs).toArray
  | [], pre, zs, k, off, h, _ => by
    obtain rfl : zs = [] := List.length_eq_zero_iff.1 (by simpa using h)
    simp
  | v :: vs, pre, [], k, off, h, _ => by simp at h
  | v :: vs, pre, z :: zs, k, off, h, hp => by
    rw [List.zipIdx_cons, List.foldl_cons]
    have e : (pre ++ z :: zs).toArray.setIfInBounds (off + k) v = ((pre ++ [v]) ++ zs).toArray := by
      apply Array.ext'
      rw [Array.toList_setIfInBounds]
      show (pre ++ z :: zs).set (off + k) v = (pre ++ [v]) ++ zs
      rw [← hp]; simp
    simp only [e]
    rw [foldl_full vs (pre ++ [v]) zs (k + 1) off (by simpa using h) (by simp; omega)]
    simp
theorem buildSlice1 {P : Program} {t e : TypeId} {n id : Nat} {z : Value} {cs : List Value} (ht : P.underlying t = some (.slice e)) (hs : tsz P e = some n) (hz : tzero P e = some z) (h0 : n ≠ 0) (hzs : z.cells.size ≠ 0) (hn : n ≤ 16777216) (hc : z.cells.toList.all constCell = true) (hl : cs.length = n) :
    buildSliceA P id t 1 [(0, .agg cs.toArray)] = some (.slice (some ⟨id, 0, none⟩) 1 1, .row cs e n true false) := by
  simp only [buildSliceA, ht, hs, hz]
  rw [if_pos ⟨h0, hzs, by omega, hc⟩]
  have ec : (Value.agg cs.toArray).cells = cs.toArray := rfl
  simp only [Instr.fill, ec, List.size_toArray, hl, ne_eq, not_true_eq_false, Bool.false_or, decide_false]
  rw [if_neg (by simp [zeros_size])]
  have e1 : (zeros z.cells (1 * n)) = ([] ++ (zeros z.cells (1 * n)).toList).toArray := by simp
  have e2 : cs.toArray.zipIdx = (cs.zipIdx 0).toArray := by simp
  rw [e1, e2, Nat.zero_mul, List.foldl_toArray']
  · rw [foldl_full cs [] _ 0 0 (by simp [zeros_size, hl]) rfl]
    simp
  · simp
end Ab
end

section
namespace Ab
open Go
set_option autoImplicit false
set_option linter.unusedVariables false
set_option linter.unusedSimpArgs false

theorem setL_get : ∀ (l c : List Value) (b j : Nat), b + l.length ≤ c.length → (setL c b l)[j]? = if b ≤ j ∧ j < b + l.length then l[j - b]? else c[j]?
  | [], c, b, j, _ => by simp [setL]; omega
  | x :: l, c, b, j, hl => by
    simp only [List.length_cons] at hl
    rw [setL, setL_get l (c.set b x) (b + 1) j (by simp; omega)]
    by_cases h1 : j = b
    · subst h1
      rw [if_neg (by omega), if_pos (by simp), List.getElem?_set_self (by omega)]; simp
    · rw [List.getElem?_set_ne (by omega)]
      by_cases h2 : b + 1 ≤ j ∧ j < b + 1 + l.length
      · rw [if_pos h2, if_pos (by simp; omega), show j - b = (j - (b + 1)) + 1 by omega, List.getElem?_cons_succ]
      · rw [if_neg h2, if_neg (by simp; omega)]

/-- Bytes that are copied into bytes that are one's own, from w on. -/
theorem Own.cpy {P : Program} {O : Old} {h : AHeap} {R : List Chunk} {e t : TypeId} {v x : Value} {A B0 xs : List UInt8} (ht : P.underlying t = some (.slice e)) (hs : tsz P e = some 1)
    (k : Own O h (ob e v (A ++ B0) :: R)) (hw : xs.length ≤ B0.length) (hx : Bytes h x xs) :
    ∃ h', copyW P h t (sliceV 1 A.length (A.length + B0.length) v) x = some (.int .i64 (xs.length : Nat), h') ∧ Own O h' (ob e v ((A ++ xs) ++ B0.drop xs.length) :: R) := by
  obtain ⟨xa, xc, rfl⟩ := hx.val
  have hsrc := hx.src
  by_cases h0 : xs = []
  · subst h0
    refine ⟨h, ?_, by simpa using k⟩
    have hz : ∀ d, min 0 d = 0 := fun d => by omega
    rcases k.os_cases with ⟨rfl, _⟩ | ⟨i, off, cap, c, ti, rfl, _⟩
    · simp only [copyW, ht, hs, hsrc, sliceV]; simp
    · simp only [sliceV]
      by_cases hc : cap = A.length
      · rw [if_pos hc]; simp only [copyW, ht, hs, hsrc]; simp
      · rw [if_neg hc]; simp only [copyW, ht, hs, hsrc]; simp
  have hpos : 0 < xs.length := List.length_pos_iff.2 h0
  rcases k.os_cases with ⟨rfl, h1, _⟩ | ⟨i, off, cap, c, ti, rfl, h1, h2, h3, k2⟩
  · simp only [List.length_append] at h1; omega
  · simp only [List.length_append] at h1 h3
    have hc := k2.obj
    have hne : ¬ cap = A.length := by omega
    have hmin : min xs.length (A.length + B0.length - A.length) = xs.length := by omega
    have htk : (xs.map B).take (xs.length * 1) = xs.map B := by rw [List.take_of_length_le (by simp)]
    have e1 : sliceV 1 A.length (A.length + B0.length) (.slice (some ⟨i, off, none⟩) (A ++ B0).length cap) = .slice (some ⟨i, off + A.length * 1, none⟩) (A.length + B0.length - A.length) (cap - A.length) := by
      simp [sliceV, hne]
    rw [e1]
    refine ⟨_, ?_, ((k2.set (.row (setL c (off + A.length * 1) (xs.map B)) e 1 ti false)).os_mk (n := A.length + B0.length) (cap := cap) (off := off) (cs := ((A ++ xs) ++ B0.drop xs.length).map B) h1 (by rw [setL_length]; exact h2) ?_).imp fun f hf => ?_⟩
    · simp only [copyW, ht, hs, hsrc, hmin, htk, hc]
      rw [if_neg (by omega), if_pos ⟨trivial, by simp; omega, all_okCell_B _⟩]
    · apply List.ext_getElem?
      intro j
      rw [Nat.mul_one] at h3 ⊢
      rw [List.getElem?_take, List.getElem?_drop, setL_get _ _ _ _ (by simp; omega)]
      have hg : ∀ j, j < A.length + B0.length → c[off + j]? = ((A ++ B0).map B)[j]? := fun j hj => by
        rw [← h3, List.getElem?_take, if_pos hj, List.getElem?_drop]
      simp only [List.length_map, Nat.mul_one]
      by_cases hj : j < A.length + B0.length
      · rw [if_pos hj]
        by_cases ha : j < A.length
        · rw [if_neg (by omega), hg j hj]
          simp [List.getElem?_append, ha]
        · by_cases hb : j < A.length + xs.length
          · rw [if_pos (by omega), show off + j - (off + A.length) = j - A.length by omega]
            simp [List.getElem?_append, ha]
            intro hq; omega
          · rw [if_neg (by omega), hg j hj]
            have hb' : ¬ j - A.length < xs.length := by omega
            simp [List.getElem?_append, ha, hb']
            congr 2
            omega
      · rw [if_neg hj]
        symm
        apply List.getElem?_eq_none
        simp; omega
    · have e2 : (A ++ xs ++ B0.drop xs.length).length = A.length + B0.length := by simp; omega
      rw [ob, e2]
      have e3 : (A ++ B0).length = A.length + B0.length := by simp
      rw [e3]
      exact hf

/-- A row of zeroes. -/
theorem mkBytes {P : Program} {t e : TypeId} {id n : Nat} (ht : P.underlying t = some (.slice e)) (hs : tsz P e = some 1) (hb : tby P e = some 1) (hz : tzero P e = some (.int .u8 0)) (hn : n ≤ 140737488355328) {k1 k2 : IntKind} :
    makeSliceA P id t (.int k1 n) (.int k2 n) = some (.slice (some ⟨id, 0, none⟩) n n, .row (List.replicate n (B 0)) e 1 true false) := by
  simp only [makeSliceA, ht, hs, hb, hz]
  rw [if_pos ⟨by omega, by omega, by omega, by omega, rfl, by decide, rfl⟩]
  simp only [Int.toNat_natCast, Nat.mul_one]
  congr 4
  simp only [zeros, Value.cells]
  apply Array.ext
  · simp
  · intro j h1 h2
    simp at h1
    simp [B, Nat.mod_one]

theorem Own.fresh0 {O : Old} {h : AHeap} {R : List Chunk} {e : TypeId} {n : Nat} (k : Own O h R) :
    Own O (h.push (.row (List.replicate n (B 0)) e 1 true false)) (ob e (.slice (some ⟨h.next, 0, none⟩) n n) (List.replicate n 0) :: R) := by
  have := (k.push (.row (List.replicate n (B 0)) e 1 true false)).os_mk (n := n) (cap := n) (off := 0) (cs := (List.replicate n (0 : UInt8)).map B) (Nat.le_refl _) (by simp) (by simp [List.map_replicate])
  simpa [ob] using this
/-- A piece from A's end on, and what is copied into it. -/
theorem Own.cpyAt {P : Program} {O : Old} {h : AHeap} {R : List Chunk} {e t : TypeId} {v x : Value} {A B0 xs : List UInt8} (ht : P.underlying t = some (.slice e)) (hs : tsz P e = some 1)
    (k : Own O h (ob e v (A ++ B0) :: R)) (hw : xs.length ≤ B0.length) (hx : Bytes h x xs) :
    ∃ y h', sliceR P h t v (some (.int .i64 (A.length : Nat))) none none = some y ∧ copyW P h t y x = some (.int .i64 (xs.length : Nat), h') ∧ Own O h' (ob e v ((A ++ xs) ++ B0.drop xs.length) :: R) := by
  obtain ⟨e1, _⟩ := k.ob_bytes.piece (P := P) (t := t) (e := e) ht hs (lo := A.length) (hi := (A ++ B0).length) (by simp) (Nat.le_refl _) (l := some (.int .i64 (A.length : Nat))) (u := none) (.inr ⟨.i64, rfl⟩) (.inl ⟨rfl, rfl⟩)
  rw [List.length_append] at e1
  obtain ⟨h', e2, k2⟩ := k.cpy ht hs hw hx
  exact ⟨_, h', e1, e2, k2⟩
theorem Own.fresh {O : Old} {h : AHeap} {R : List Chunk} {e : TypeId} {bs : List UInt8} (k : Own O h R) :
    Own O (h.push (.row (bs.map B) e 1 true false)) (ob e (.slice (some ⟨h.next, 0, none⟩) bs.length bs.length) bs :: R) := by
  have := (k.push (.row (bs.map B) e 1 true false)).os_mk (n := bs.length) (cap := bs.length) (off := 0) (cs := bs.map B) (Nat.le_refl _) (by simp) (by rw [Nat.mul_one, List.drop_zero, List.take_of_length_le (by simp)])
  exact this

/-! ### One record's bytes, replaced -/
section
variable {α : Type} {pre : α → List Value} {O : Old} {h : AHeap} {R : List Chunk} {e u : TypeId} {m : Nat} {v : Value} {fs : List (α × List UInt8)}
theorem Own.brecs_upd {P : Program} {t : TypeId} (hp : ∀ x, (pre x).length = m) (ht : P.underlying t = some (.slice e)) (hs : tsz P e = some (m + 1)) (k : Own O h (brecs pre e (m + 1) u v fs :: R)) {j : Nat} (hj : j < fs.length) {kd : IntKind} :
    ∃ i off c ti a cap X, indexAddrP P t v (.int kd j) = some (.pointer (some ⟨i, off, none⟩)) ∧ off + (m + 1) ≤ c.length ∧ (∀ f y, (pre fs[j].1 ++ [.slice a fs[j].2.length cap])[f]? = some y → c[off + f]? = some y) ∧
      Own O h (cell i (.row c e (m + 1) ti false) :: ob u (.slice a fs[j].2.length cap) fs[j].2 :: (X ++ R)) ∧
      ∀ h' a' cap' bs', Own O h' (cell i (.row (c.set (off + m) (.slice a' bs'.length cap')) e (m + 1) ti false) :: ob u (.slice a' bs'.length cap') bs' :: (X ++ R)) → Own O h' (brecs pre e (m + 1) u v (fs.set j (fs[j].1, bs')) :: R) := by
  obtain ⟨ac, ha, k⟩ := brecs_iff.1 k
  have hjac : j < ac.length := by omega
  have hall := rcells_all (pre := pre) (sz := m + 1) (fs := fs) (fun x => by rw [hp]) ac
  have hb : (rbods u fs ac)[j]? = some (ob u (.slice ac[j].1 fs[j].2.length ac[j].2) fs[j].2) := by simp [rbods, List.getElem?_zipWith, List.getElem?_eq_getElem hj, List.getElem?_eq_getElem hjac]
  have hrj : (rcells pre fs ac)[j]? = some (pre fs[j].1 ++ [.slice ac[j].1 fs[j].2.length ac[j].2]) := by simp [rcells, rec1, List.getElem?_zipWith, List.getElem?_eq_getElem hj, List.getElem?_eq_getElem hjac]
  rcases k.os_cases with ⟨rfl, h1, _⟩ | ⟨i, off, cap, c, ti, rfl, h1, h2, h3, k2⟩
  · omega
  have hmul : (j + 1) * (m + 1) ≤ fs.length * (m + 1) := Nat.mul_le_mul_right _ hj
  have hmul2 : fs.length * (m + 1) ≤ cap * (m + 1) := Nat.mul_le_mul_right _ h1
  have hsucc : (j + 1) * (m + 1) = j * (m + 1) + (m + 1) := Nat.succ_mul _ _
  have hget : ∀ q, q < fs.length * (m + 1) → c[off + q]? = (rcells pre fs ac).flatten[q]? := fun q hq => by
    rw [← h3, List.getElem?_take, if_pos hq, List.getElem?_drop]
  refine ⟨i, off + j * (m + 1), c, ti, ac[j].1, ac[j].2, (rbods u fs ac).eraseIdx j, ?_, by omega, fun f y hy => ?_, ?_, fun h' a' cap' bs' k' => ?_⟩
  · simp only [indexAddrP, ht, hs]
    simp [hj]
  · have hf : f < m + 1 := by have := (List.getElem?_eq_some_iff.1 hy).1; simp [hp] at this; omega
    rw [show off + j * (m + 1) + f = off + (j * (m + 1) + f) by omega, hget _ (by omega), flat_get hall hf, hrj]
    exact hy
  · have : Own O h (rbods u fs ac ++ (cell i (.row c e (m + 1) ti false) :: R)) := k2.perm List.perm_middle.symm
    have k3 := this.mem hb
    refine k3.perm ?_
    refine (List.Perm.cons _ List.perm_middle).trans ?_
    exact List.Perm.swap _ _ _
  · refine brecs_iff.2 ⟨ac.set j (a', cap'), by simp [ha], ?_⟩
    have q1 : rcells pre (fs.set j (fs[j].1, bs')) (ac.set j (a', cap')) = (rcells pre fs ac).set j (pre fs[j].1 ++ [.slice a' bs'.length cap']) := by
      apply List.ext_getElem?
      intro q
      simp only [rcells, List.getElem?_zipWith, List.getElem?_set, List.length_zipWith]
      by_cases hq : j = q
      · subst hq; simp [hj, hjac, rec1]; omega
      · simp [hq]
    have q2 : rbods u (fs.set j (fs[j].1, bs')) (ac.set j (a', cap')) = (rbods u fs ac).set j (ob u (.slice a' bs'.length cap') bs') := by
      apply List.ext_getElem?
      intro q
      simp only [rbods, List.getElem?_zipWith, List.getElem?_set, List.length_zipWith]
      by_cases hq : j = q
      · subst hq; simp [hj, hjac]; omega
      · simp [hq]
    rw [q1, q2, List.length_set]
    have k4 : Own O h' (ob u (.slice a' bs'.length cap') bs' :: ((rbods u fs ac).eraseIdx j ++ (cell i (.row (c.set (off + j * (m + 1) + m) (.slice a' bs'.length cap')) e (m + 1) ti false) :: R))) := by
      refine k'.perm ?_
      refine (List.Perm.swap _ _ _).trans ?_
      exact List.Perm.cons _ List.perm_middle.symm
    have k5 := Own.mem_back hb k4
    have k6 : Own O h' (cell i (.row (c.set (off + j * (m + 1) + m) (.slice a' bs'.length cap')) e (m + 1) ti false) :: ((rbods u fs ac).set j (ob u (.slice a' bs'.length cap') bs') ++ R)) := k5.perm List.perm_middle
    refine k6.os_mk h1 (by rw [List.length_set]; exact h2) ?_
    have hall2 : ∀ y ∈ (rcells pre fs ac).set j (pre fs[j].1 ++ [.slice a' bs'.length cap']), y.length = m + 1 := by
      intro y hy
      rcases List.mem_or_eq_of_mem_set hy with h | h
      · exact hall y h
      · subst h; simp [hp]
    apply List.ext_getElem?
    intro q
    rw [List.getElem?_take, List.getElem?_drop]
    by_cases hq : q < fs.length * (m + 1)
    rotate_left
    · rw [if_neg hq, List.getElem?_eq_none]
      rw [flat_length hall2, List.length_set, rcells_length ha]; omega
    rw [if_pos hq]
    have hm0 : 0 < m + 1 := by omega
    obtain ⟨a, f, hf, rfl⟩ : ∃ a f, f < m + 1 ∧ q = a * (m + 1) + f := ⟨q / (m + 1), q % (m + 1), Nat.mod_lt _ hm0, by rw [Nat.mul_comm]; exact (Nat.div_add_mod _ _).symm⟩
    rw [flat_get hall2 hf]
    by_cases haj : a = j
    · subst haj
      rw [List.getElem?_set_self (by rw [rcells_length ha]; exact hj)]
      simp only [Option.bind_some]
      by_cases hfm : f = m
      · subst hfm
        rw [show off + (a * (f + 1) + f) = off + a * (f + 1) + f by omega, List.getElem?_set_self (by omega), List.getElem?_append_right (by rw [hp]; omega), hp]
        simp
      · rw [List.getElem?_set_ne (by omega), hget _ hq, flat_get hall hf, hrj]
        simp only [Option.bind_some]
        rw [List.getElem?_append_left (by rw [hp]; omega), List.getElem?_append_left (by rw [hp]; omega)]
    · have hne : off + (a * (m + 1) + f) ≠ off + j * (m + 1) + m := by
        intro h
        have h' : a * (m + 1) + f = j * (m + 1) + m := by omega
        have h1' : (a * (m + 1) + f) / (m + 1) = a := by rw [Nat.mul_comm, Nat.mul_add_div hm0, Nat.div_eq_of_lt hf]; omega
        have h2' : (j * (m + 1) + m) / (m + 1) = j := by rw [Nat.mul_comm, Nat.mul_add_div hm0, Nat.div_eq_of_lt (by omega)]; omega
        rw [h'] at h1'
        omega
      rw [List.getElem?_set_ne (Ne.symm hne), List.getElem?_set_ne (fun h => haj h.symm), hget _ hq, flat_get hall hf]
end

theorem Bytes.bytesV {h : AHeap} {v : Value} {bs : List UInt8} (k : Bytes h v bs) : bytesV h v = some bs := by
  rcases k with ⟨rfl, rfl⟩ | ⟨i, off, cap, c, e, sz, ti, ro, rfl, _, _, h3, _, h5, h6⟩
  · rfl
  · simp only [Ab.bytesV, h3]
    rw [if_pos h5, h6, bytesOf_map]
theorem exV_bytes {h : AHeap} {v : Value} {bs : List UInt8} (k : Bytes h v bs) (e : Ex) (c : UInt8) : exV h e [v, .int .u8 c.toNat] = some (e.val bs c) := by
  simp [exV, k.bytesV]

theorem indexByte_split {bs : List UInt8} {c : UInt8} (h : 0 < bs.count c) : ∃ pre tail, bs = pre ++ c :: tail ∧ c ∉ pre ∧ Lib.indexByte bs c = pre.length := by
  induction bs with
  | nil => simp at h
  | cons b l ih =>
    by_cases hb : b = c
    · subst hb
      exact ⟨[], l, rfl, by simp, by simp [Lib.indexByte]⟩
    · rw [List.count_cons_of_ne hb] at h
      obtain ⟨pre, tail, rfl, h1, h2⟩ := ih h
      refine ⟨b :: pre, tail, rfl, ?_, ?_⟩
      · simp only [List.mem_cons, not_or]; exact ⟨Ne.symm hb, h1⟩
      have hb' : (b == c) = false := by simpa using hb
      simp only [Lib.indexByte, hb', Bool.false_eq_true, if_false, h2]
      have : ((pre.length : Int) == -1) = false := by simp
      rw [this]; rfl
end Ab
end

section
namespace Ab
open Go
set_option autoImplicit false
set_option linter.unusedVariables false
set_option linter.unusedSimpArgs false

/-! ### Texts: functions without a body, rows of texts -/
theorem exV_str {h : AHeap} {l : List UInt8} (e : Ex) (c : UInt8) : exV h e [.string ⟨l.toArray⟩, .int .u8 c.toNat] = some (e.val l c) := by
  simp [exV, bytesV]

/-- A row of empty texts. -/
theorem mkTexts {P : Program} {t e : TypeId} {id n by_ : Nat} (ht : P.underlying t = some (.slice e)) (hs : tsz P e = some 1) (hb : tby P e = some by_) (hz : tzero P e = some (.string ⟨#[]⟩)) (hn : (by_ : Int) * (n : Int) ≤ 281474976710656) (hn2 : n ≤ 9223372036854775807) {k1 k2 : IntKind} :
    makeSliceA P id t (.int k1 n) (.int k2 n) = some (.slice (some ⟨id, 0, none⟩) n n, .row ((List.replicate n ([] : List UInt8)).map T) e 1 true false) := by
  simp only [makeSliceA, ht, hs, hb, hz]
  rw [if_pos ⟨by omega, by omega, by omega, hn, rfl, by decide, rfl⟩]
  simp only [Int.toNat_natCast, Nat.mul_one]
  congr 4
  simp only [zeros, Value.cells]
  apply Array.ext
  · simp
  · intro j h1 h2
    simp at h1
    simp [T, Nat.mod_one]
theorem Own.freshT {O : Old} {h : AHeap} {R : List Chunk} {e : TypeId} {ls : List (List UInt8)} (k : Own O h R) :
    Own O (h.push (.row (ls.map T) e 1 true false)) (os e 1 (.slice (some ⟨h.next, 0, none⟩) ls.length ls.length) ls.length (ls.map T) :: R) :=
  (k.push (.row (ls.map T) e 1 true false)).os_mk (n := ls.length) (cap := ls.length) (off := 0) (cs := ls.map T) (Nat.le_refl _) (by simp) (by rw [Nat.mul_one, List.drop_zero, List.take_of_length_le (by simp)])

/-! ### min, max -/
theorem foldA_min {k k2 : IntKind} {x y : Int} : foldA min2A (.int k x) [.int k2 y] = some (.int k (if y < x then y else x)) := rfl
theorem foldA_max {k k2 : IntKind} {x y : Int} : foldA max2A (.int k x) [.int k2 y] = some (.int k (if x < y then y else x)) := rfl
attribute [go_sem] foldA_min foldA_max
end Ab
end

section
namespace Ab
open Go
set_option autoImplicit false
set_option linter.unusedVariables false
set_option linter.unusedSimpArgs false
section
variable {P : Program} {ops : Array Oper} {s s2 : St} {h h2 : AHeap}
/-- Past a call or a writing whose guard is off. -/
theorem awpD_skipR {Qn : St → AHeap → Prop} {l : List PItem} (n : Nat) {rc rc2 : List (Nat × Ent)} {i : Nat} {ts rs : List Nat} {o : Oper}
    (hl : l[n]? = some (.w i ts rs)) (hn : (l.take n).all (fun it => match it with | .n _ _ => true | _ => false) = true) (e : runDR P ops (l.take n) s h rc = some (s2, h2, rc2)) (ho : ops[i]? = some o) (hd : dstOk s2 o.dst = true)
    (hgd : guardA ops (s2.only ts) o.guard = some false)
    (k : awpD P ops Qn (l.drop (n + 1)) ((i, .skip (s2.only ts)) :: rc2) (putO s2 o.dst undef) h2) : awpD P ops Qn l rc s h := by
  have hl2 : l = l.take n ++ .w i ts rs :: l.drop (n + 1) := by
    obtain ⟨hlt, he⟩ := List.getElem?_eq_some_iff.1 hl
    rw [← he, ← List.drop_eq_getElem_cons hlt, List.take_append_drop]
  rw [hl2]
  rw [List.all_eq_true] at hn
  refine awpD_of_runDR _ _ (fun it hi => ?_) e ?_
  · have := hn it hi
    cases it with
    | n i ts => exact ⟨i, ts, rfl⟩
    | w _ _ _ => cases this
  simp only [awpD]
  rw [ho]
  refine ⟨hd, ?_⟩
  rw [hgd]
  exact k
end

/-! ### A record of a slice that is one's own, set -/
theorem setL_eq : ∀ (rs c : List Value) (off : Nat), off + rs.length ≤ c.length → setL c off rs = c.take off ++ rs ++ c.drop (off + rs.length)
  | [], c, off, h => by rw [setL]; simp
  | r :: rs, c, off, h => by
    simp only [List.length_cons] at h
    rw [setL, setL_eq rs (c.set off r) (off + 1) (by rw [List.length_set]; omega)]
    have h1 : (c.set off r).take (off + 1) = c.take off ++ [r] := by
      have hl : off < c.length := by omega
      rw [List.set_eq_take_append_cons_drop, if_pos hl, List.take_append, List.take_of_length_le (by rw [List.length_take]; omega), List.length_take, show off + 1 - min off c.length = 1 by omega]
      rfl
    have h2 : (c.set off r).drop (off + 1 + rs.length) = c.drop (off + 1 + rs.length) := by
      rw [List.drop_set]; rw [if_pos (by omega)]
    rw [h1, h2, List.length_cons, show off + (rs.length + 1) = off + 1 + rs.length by omega]
    simp
theorem Own.os_setR {O : Old} {h : AHeap} {R : List Chunk} {P : Program} {t e : TypeId} {sz n : Nat} {v : Value} {cs rs : List Value} (ht : P.underlying t = some (.slice e)) (hs : tsz P e = some sz) (k : Own O h (os e sz v n cs :: R)) {j : Nat} (hj : j < n) (hr : rs.length = sz) {kd : IntKind} :
    ∃ i off c ti, indexAddrP P t v (.int kd j) = some (.pointer (some ⟨i, off, none⟩)) ∧ h.obj i = some (.row c e sz ti false) ∧ off + sz ≤ c.length ∧ Own O (h.set i (.row (setL c off rs) e sz ti false)) (os e sz v n (setL cs (j * sz) rs) :: R) := by
  rcases k.os_cases with ⟨rfl, h1, _⟩ | ⟨i, off, cap, c, ti, rfl, h1, h2, h3, k2⟩
  · omega
  have hmul : (j + 1) * sz ≤ n * sz := Nat.mul_le_mul_right _ hj
  have hmul2 : n * sz ≤ cap * sz := Nat.mul_le_mul_right _ h1
  have hsucc : (j + 1) * sz = j * sz + sz := Nat.succ_mul _ _
  have hcl : cs.length = n * sz := by rw [← h3, List.length_take, List.length_drop]; omega
  refine ⟨i, off + j * sz, c, ti, ?_, k2.obj, by omega, (k2.set _).os_mk h1 (by rw [setL_length]; exact h2) ?_⟩
  · simp only [indexAddrP, ht, hs]
    simp [hj]
  · rw [setL_eq _ _ _ (by omega), setL_eq _ _ _ (by omega), ← h3, hr]
    apply List.ext_getElem?
    intro q
    simp only [List.getElem?_take, List.getElem?_drop, List.getElem?_append, List.length_append, List.length_take, List.length_drop, hr]
    by_cases hq : q < n * sz
    · rw [if_pos hq]
      by_cases q1 : q < j * sz
      · rw [if_pos (by omega), if_pos (by omega), if_pos (by omega), if_pos (by omega), if_pos (by omega), if_pos (by omega), if_pos hq]
      · by_cases q2 : q < j * sz + sz
        · rw [if_pos (by omega), if_neg (by omega), if_pos (by omega), if_neg (by omega)]
          congr 1; omega
        · rw [if_neg (by omega), if_neg (by omega), if_pos (by omega)]
          congr 1; omega
    · rw [if_neg hq]
      symm
      rw [if_neg (by omega), if_neg (by omega)]
end Ab
end

section
namespace Ab
open Go Go.RowKit Go.Proofs
set_option autoImplicit false
set_option linter.unusedVariables false
set_option linter.unusedSimpArgs false

/-- One row is another one now; all else that lay there lies as it lay. -/
theorem Rel.rowSet {M : Mp} {h : AHeap} {w w' : World} {i : Nat} {c c' : List Value} {e : TypeId} {sz : Nat} {ti : Bool} {b : Blk} (r : Rel M h w) (ho : h.obj i = some (.row c e sz ti false)) (hM : M i = some b)
    (hoth : ∀ k, k < w.heap.size → k ≠ b.blk → w'.heap[k]? = w.heap[k]?) (hsz : w.heap.size ≤ w'.heap.size) (e1 : w'.os = w.os) (e2 : w'.tape = w.tape) (e3 : w'.output = w.output) (hrow : RowRel M b w' c' e sz ti false) :
    Rel M (h.set i (.row c' e sz ti false)) w' ∧ Post M h w M (h.set i (.row c' e sz ti false)) w' := by
  have hsome : ∀ j, ((h.set i (.row c' e sz ti false)).obj j).isSome ↔ (h.obj j).isSome := fun j => by
    simp only [AHeap.set]; split
    · rename_i e; subst e; simp [ho]
    · rfl
  constructor
  · constructor
    · intro j o b' hj hMj
      simp only [AHeap.set] at hj
      by_cases ej : j = i
      · subst ej
        rw [if_pos rfl] at hj
        obtain rfl := Option.some.inj hj
        rw [hM] at hMj; obtain rfl := Option.some.inj hMj
        exact hrow
      · rw [if_neg ej] at hj
        refine (r.live j o b' hj hMj).mono .rfl (hoth _ (r.inb j b' hMj) ?_)
        intro e'
        exact ej (r.inj j i b' b (by simp [hj]) (by simp [ho]) hMj hM e')
    · exact fun j k b1 b2 hj hk => r.inj j k b1 b2 ((hsome j).1 hj) ((hsome k).1 hk)
    · exact r.fresh
    · exact r.glob
    · exact fun j b1 hj => Nat.lt_of_lt_of_le (r.inb j b1 hj) hsz
    · exact r.ble
    · intro j hj
      have hb := r.bnd j hj
      simp only [AHeap.set]
      rw [if_neg (by rintro rfl; rw [ho] at hb; cases hb)]
      exact hb
    · intro j o hj hjo
      have hi := r.notOld ho
      have hj' : j < h.base := hj
      simp only [AHeap.set] at hjo
      rw [if_neg (by omega)] at hjo
      exact r.oldro j o hj' hjo
    · exact r.nb
    · exact r.b0
  · constructor
    · exact .rfl
    · exact fun _ _ h => h
    · exact Nat.le_refl _
    · rfl
    · exact hsz
    · exact e1
    · exact e2
    · exact e3
    · exact fun k hk hu => hoth k hk (fun e' => hu i b (by simp [ho]) hM e'.symm)
    · exact fun k hk => hoth k (Nat.lt_of_lt_of_le hk r.bsz) (by have := r.nb i b (r.notOld ho) hM; omega)
    · exact fun j b1 hj hMj => .inr ⟨j, b1, (hsome j).1 hj, hMj, rfl⟩

/-- A contract of the kit that puts a row of texts into another order. -/
theorem sortBack {P : Program} {f : FuncId} {ord : List (List UInt8) → List (List UInt8)} (hlen : ∀ l, (ord l).length = l.length)
    (ks : ∀ (blk off cap : Nat) (ss : List (List UInt8)) (w : World), Sort.Holds encStr w blk off ss.toArray → blk < w.heap.size → ss.length < 4611686018427387904 →
      Calls P f #[.slice (some ⟨blk, off, none⟩) ss.length cap] w fun e w' => e = .returned (.tuple #[]) ∧ ∃ n os, w' = Sort.grow (Sort.putRow encStr (Sort.ahead w n) blk off (ord ss).toArray) os)
    (kn : ∀ (p : Option Addr) (cap : Nat) (w : World), Calls P f #[.slice p 0 cap] w fun e w' => e = .returned (.tuple #[]) ∧ w' = w)
    {O : Old} {h : AHeap} {R : List Chunk} {e : TypeId} {v : Value} {ls : List (List UInt8)} (k : Own O h (os e 1 v ls.length (ls.map T) :: R)) (hl : ls.length ≤ 1000000) :
    ACalls P f #[v] h fun r h' => r = .tuple #[] ∧ Own O h' (os e 1 v (ord ls).length ((ord ls).map T) :: R) := by
  intro M w cargs r va
  have hsz : cargs.size = 1 := va.1.symm
  have h0 := va.2 0 (by simp) (by omega)
  obtain ⟨c0, rfl⟩ : ∃ c0, cargs = #[c0] := ⟨cargs[0], by apply Array.ext <;> simp [hsz]; intro i p; subst p; rfl⟩
  simp only [List.getElem_toArray, List.getElem_cons_zero] at h0
  by_cases hn : ls = []
  · subst hn
    have ho : ord [] = [] := List.eq_nil_of_length_eq_zero (hlen [])
    rw [ho]
    obtain ⟨p, cap, rfl⟩ := k.os_val
    have hc : ∃ p' cap', c0 = .slice p' 0 cap' := by
      simp only [List.length_nil] at h0
      cases h0 <;> exact ⟨_, _, rfl⟩
    obtain ⟨p', cap', rfl⟩ := hc
    refine (kn p' cap' w).mono ?_
    rintro x w' ⟨rfl, rfl⟩
    exact ⟨.tuple #[], .tuple #[], M, h, rfl, ⟨rfl, k⟩, .tuple _ _ rfl (fun j h => by simp at h), r, Post.refl M h w'⟩
  have hpos : 0 < ls.length := List.length_pos_iff.2 hn
  rcases k.os_cases with ⟨_, hz, _⟩ | ⟨i, off, cap, c, ti, rfl, q1, q2, q3, k2⟩
  · omega
  have hoi := k2.obj
  have hc : ∃ b cap', M i = some b ∧ c0 = .slice (some ⟨b.blk, b.base + off, none⟩) ls.length cap' := by
    generalize hN : ls.length = N at h0 hpos
    cases h0 with
    | slice _ _ _ _ cap' b hM _ _ => exact ⟨b, cap', hM, rfl⟩
    | slice0 => omega
    | slice00 => omega
  obtain ⟨b, cap', hM, rfl⟩ := hc
  obtain ⟨cc, lo, hi, u1, u2, u3, u4, u5, u6, u7⟩ := r.live i _ b hoi hM
  have hget : ∀ j, j < ls.length → c[off + j]? = (ls.map T)[j]? := fun j hj => by
    rw [← q3, List.getElem?_take, if_pos (by omega), List.getElem?_drop]
  have hH : Sort.Holds encStr w b.blk (b.base + off) ls.toArray := by
    intro j hj
    have hj' : j < ls.length := by simpa using hj
    have hv : c[off + j]? = some (T ls[j]) := by rw [hget j hj']; simp [hj']
    obtain ⟨vc, e1, e2⟩ := r.cell hoi hM hv
    have hu := r.unfrozen hoi hM (show off + j < c.length by omega)
    rw [show b.base + off + j = b.base + (off + j) by omega]
    refine ⟨?_, hu⟩
    rw [e1]
    have : vc = T ls[j] := by unfold T at e2 ⊢; cases e2; rfl
    rw [this]
    simp [hj', encStr, T]
  refine (ks b.blk (b.base + off) cap' ls w hH (r.inb i b hM) (by omega)).mono ?_
  rintro x w' ⟨rfl, n, osn, rfl⟩
  have hol := hlen ls
  have hheap : ∀ k, k < w.heap.size → (Sort.grow (Sort.putRow encStr (Sort.ahead w n) b.blk (b.base + off) (ord ls).toArray) osn).heap[k]? = if b.blk = k then (w.heap[k]?).map (Sort.onCells (Sort.putCells encStr (b.base + off) (ord ls).toArray)) else w.heap[k]? := by
    intro k hk
    show (w.heap.modify b.blk _ ++ osn)[k]? = _
    rw [Array.getElem?_append_left (by simpa using hk), Array.getElem?_modify]
  have hrow : RowRel M b (Sort.grow (Sort.putRow encStr (Sort.ahead w n) b.blk (b.base + off) (ord ls).toArray) osn) (setL c off ((ord ls).map T)) e 1 ti false := by
    refine ⟨Sort.putCells encStr (b.base + off) (ord ls).toArray cc, lo, hi, ?_, ?_, ?_, u4, u5, ?_, fun j v hj => ?_⟩
    · rw [hheap _ (r.inb i b hM), if_pos rfl, u1]; rfl
    · simp [Sort.putCells, u2]
    · rw [setL_length]; exact u3
    · intro h; have := u6 h; simpa [Sort.putCells] using this
    · rw [setL_get _ _ _ _ (by rw [List.length_map, hol]; omega)] at hj
      have hjl : off + ls.length ≤ c.length := by omega
      split at hj
      · rename_i hb2
        rw [List.length_map, hol] at hb2
        have hjo : j - off < (ord ls).length := by omega
        have hcc : b.base + j < cc.size := by omega
        refine ⟨v, ?_, ?_⟩
        · simp only [Sort.putCells, Array.getElem?_mapIdx]
          rw [Array.getElem?_eq_getElem hcc]
          simp only [Option.map_some]
          rw [if_pos ⟨by omega, by simp; omega⟩]
          rw [List.getElem?_map, List.getElem?_eq_getElem hjo] at hj
          rw [← hj]
          have : b.base + j - (b.base + off) = j - off := by omega
          rw [this]
          simp [hjo, encStr, T]
        · rw [List.getElem?_map] at hj
          obtain ⟨l, _, rfl⟩ := Option.map_eq_some_iff.1 hj
          exact .string _
      · rename_i hb2
        rw [List.length_map, hol] at hb2
        obtain ⟨vc, e1, e2⟩ := u7 j v hj
        refine ⟨vc, ?_, e2⟩
        simp only [Sort.putCells, Array.getElem?_mapIdx]
        rw [e1]
        simp only [Option.map_some]
        rw [if_neg (by simp; omega)]
  obtain ⟨r2, p2⟩ := Rel.rowSet (w' := Sort.grow (Sort.putRow encStr (Sort.ahead w n) b.blk (b.base + off) (ord ls).toArray) osn) r hoi hM (fun k hk hne => by rw [hheap k hk, if_neg (Ne.symm hne)]) (by show _ ≤ (w.heap.modify b.blk _ ++ osn).size; simp) rfl rfl rfl hrow
  refine ⟨.tuple #[], .tuple #[], M, _, rfl, ⟨rfl, ?_⟩, .tuple _ _ rfl (fun j h => by simp at h), r2, p2⟩
  have k3 := k2.set (.row (setL c off ((ord ls).map T)) e 1 ti false)
  rw [hol]
  refine k3.os_mk q1 (by rw [setL_length]; exact q2) ?_
  apply List.ext_getElem?
  intro j
  rw [List.getElem?_take]
  by_cases hj : j < ls.length
  · rw [if_pos (by omega), List.getElem?_drop, setL_get _ _ _ _ (by rw [List.length_map, hol]; omega), if_pos ⟨by omega, by rw [List.length_map, hol]; omega⟩, Nat.add_sub_cancel_left]
  · rw [if_neg (by omega), List.getElem?_eq_none (by rw [List.length_map, hol]; omega)]
end Ab
end

section
namespace Ab
open Go
set_option autoImplicit false
set_option linter.unusedVariables false
set_option linter.unusedSimpArgs false

/-! ### Maps that are one's own -/
section
variable {K V : Type} (ke : K → Value) (ve : V → Value)
def ents (l : List (K × V)) (bs : List Nat) : List MapEntry := List.zipWith (fun (p : K × V) b => (⟨ke p.1, ve p.2, b⟩ : MapEntry)) l bs
/-- A map, as it was laid in. -/
def mpc (i : Nat) (l : List (K × V)) : Chunk := ex fun bc : List Nat × Nat => pur (bc.1.length = l.length ∧ bc.1.Nodup ∧ ∀ b ∈ bc.1, b < bc.2) (cell i (.other (.map (ents ke ve l bc.1).toArray bc.2)))

/-- How keys are written as values. -/
structure KeyEnc (P : Program) (kt : TypeId) (good : K → Prop) : Prop where
  law : WideMaps.KeyLaw P kt
  flat : ∀ k, flatB (ke k) = true
  lit : ∀ k, good k → ∃ l, keyOf P kt (ke k) = some l
  inj : ∀ a b, ke a = ke b → a = b
end

section
variable {K V : Type} {ke : K → Value} {ve : V → Value} {good : K → Prop} {P : Program} {kt t e : TypeId} {O : Old} {h : AHeap} {R : List Chunk} {i : Nat} {l : List (K × V)} {bs : List Nat} {clock : Nat}

theorem mpc_iff : Own O h (mpc ke ve i l :: R) ↔ ∃ (bs : List Nat) (clock : Nat), (bs.length = l.length ∧ bs.Nodup ∧ ∀ b ∈ bs, b < clock) ∧ Own O h (cell i (.other (.map (ents ke ve l bs).toArray clock)) :: R) := by
  simp only [mpc, Own.ex_iff, Own.pur_iff]
  exact ⟨fun ⟨x, a, b⟩ => ⟨x.1, x.2, a, b⟩, fun ⟨bs, c, a, b⟩ => ⟨(bs, c), a, b⟩⟩

theorem ents_keys : ∀ {l : List (K × V)} {bs : List Nat}, bs.length = l.length → (ents ke ve l bs).map (·.key) = l.map fun p => ke p.1
  | [], [], _ => rfl
  | p :: l, b :: bs, h => by
    simp only [ents, List.zipWith_cons_cons, List.map_cons]
    have := ents_keys (l := l) (bs := bs) (by simpa using h)
    rw [← this]; rfl
  | [], _ :: _, h => by simp at h
  | _ :: _, [], h => by simp at h
theorem ents_borns : ∀ {l : List (K × V)} {bs : List Nat}, bs.length = l.length → (ents ke ve l bs).map (·.born) = bs
  | [], [], _ => rfl
  | p :: l, b :: bs, h => by
    simp only [ents, List.zipWith_cons_cons, List.map_cons]
    have := ents_borns (l := l) (bs := bs) (by simpa using h)
    simp only [ents] at this
    rw [this]
  | [], _ :: _, h => by simp at h
  | _ :: _, [], h => by simp at h
theorem ents_length (hb : bs.length = l.length) : (ents ke ve l bs).length = l.length := by simp [ents, hb]
theorem ents_get {j : Nat} {x : MapEntry} (hx : (ents ke ve l bs)[j]? = some x) : ∃ p b, l[j]? = some p ∧ bs[j]? = some b ∧ x = ⟨ke p.1, ve p.2, b⟩ := by
  simp only [ents, List.getElem?_zipWith] at hx
  split at hx
  · rename_i p b h1 h2; exact ⟨p, b, h1, h2, (Option.some.inj hx).symm⟩
  · cases hx
theorem ents_mem {x : MapEntry} (hx : x ∈ ents ke ve l bs) : ∃ p, p ∈ l ∧ x.key = ke p.1 ∧ x.val = ve p.2 ∧ x.born ∈ bs := by
  obtain ⟨j, hj⟩ := List.mem_iff_getElem?.1 hx
  obtain ⟨p, b, h1, h2, rfl⟩ := ents_get hj
  exact ⟨p, List.mem_of_getElem? h1, rfl, rfl, List.mem_of_getElem? h2⟩

theorem nodup_map {α β : Type} {f : α → β} (hf : ∀ a b, f a = f b → a = b) : ∀ {l : List α}, l.Nodup → (l.map f).Nodup
  | [], _ => List.nodup_nil
  | x :: l, h => by
    rw [List.nodup_cons] at h
    rw [List.map_cons, List.nodup_cons]
    refine ⟨fun hx => ?_, nodup_map hf h.2⟩
    obtain ⟨y, hy, e⟩ := List.mem_map.1 hx
    exact h.1 (hf _ _ e ▸ hy)

theorem KeyEnc.keysOk (E : KeyEnc ke P kt good) (hb : bs.length = l.length) {x : K} (hx : good x) (hl : ∀ p ∈ l, good p.1) (hn : (l.map (·.1)).Nodup) : Ab.keysOk P kt (ke x) (ents ke ve l bs) := by
  refine ⟨E.law, E.flat x, E.lit x hx, fun y hy => ?_, ?_⟩
  · obtain ⟨p, hp, h1, _⟩ := ents_mem hy
    rw [h1]; exact E.lit _ (hl p hp)
  · rw [ents_keys hb]
    have := nodup_map (f := ke) E.inj hn
    rwa [List.map_map] at this

theorem Own.map_new (k : Own O h R) : Own O (h.push (.other (.map #[] 0))) (mpc ke ve h.next [] :: R) :=
  mpc_iff.2 ⟨[], 0, ⟨rfl, List.nodup_nil, fun b hb => by cases hb⟩, k.push _⟩

theorem Own.map_len (k : Own O h (mpc ke ve i l :: R)) (ht : P.underlying t = some (.map kt e)) : lenE P h t (.map (some i)) = some (.int .i64 l.length) := by
  obtain ⟨bs, clock, hb, k1⟩ := mpc_iff.1 k
  simp only [lenE, ht, k1.obj, List.size_toArray, ents_length hb.1]

theorem Own.map_obj (k : Own O h (mpc ke ve i l :: R)) : ∃ es clock, h.obj i = some (.other (.map es clock)) ∧ es.size = l.length := by
  obtain ⟨bs, clock, hb, k1⟩ := mpc_iff.1 k
  exact ⟨_, _, k1.obj, by simp [ents_length hb.1]⟩

theorem Own.map_miss (E : KeyEnc ke P kt good) (k : Own O h (mpc ke ve i l :: R)) (ht : P.underlying t = some (.map kt e)) {z : Value} (hz : tzero P e = some z) (hc : constOk z = true) {x : K} (hx : good x) (hl : ∀ p ∈ l, good p.1) (hn : (l.map (·.1)).Nodup) (hno : ∀ p ∈ l, p.1 ≠ x) (ok : Bool) :
    lookupR P h t (.map (some i)) (ke x) ok = some (if ok then .tuple #[z, .bool false] else z) := by
  obtain ⟨bs, clock, hb, k1⟩ := mpc_iff.1 k
  have hf : findE (ke x) (ents ke ve l bs) = none := findE_none fun y hy hk => by
    obtain ⟨p, hp, h1, _⟩ := ents_mem hy
    exact hno p hp (E.inj _ _ (h1.symm.trans hk))
  simp only [lookupR, ht, hz, Option.bind_some, mapE, k1.obj, hf]
  rw [if_pos ⟨E.keysOk hb.1 hx hl hn, hc⟩]

theorem Own.map_hit (E : KeyEnc ke P kt good) (k : Own O h (mpc ke ve i l :: R)) (ht : P.underlying t = some (.map kt e)) {z : Value} (hz : tzero P e = some z) (hc : constOk z = true) {x : K} {v : V} (hx : good x) (hl : ∀ p ∈ l, good p.1) (hn : (l.map (·.1)).Nodup) (hin : (x, v) ∈ l) (ok : Bool) :
    lookupR P h t (.map (some i)) (ke x) ok = some (if ok then .tuple #[ve v, .bool true] else ve v) := by
  obtain ⟨bs, clock, hb, k1⟩ := mpc_iff.1 k
  obtain ⟨j, hj⟩ := List.mem_iff_getElem?.1 hin
  have hko := E.keysOk (ve := ve) hb.1 hx hl hn
  have hjl : j < bs.length := by rw [hb.1]; exact (List.getElem?_eq_some_iff.1 hj).1
  have hm : (⟨ke x, ve v, bs[j]⟩ : MapEntry) ∈ ents ke ve l bs := by
    refine List.mem_of_getElem? (i := j) ?_
    simp [ents, List.getElem?_zipWith, hj, hjl]
  have hf : findE (ke x) (ents ke ve l bs) = some (ve v) := findE_some hko.2.2.2.2 hm rfl
  simp only [lookupR, ht, hz, Option.bind_some, mapE, k1.obj, hf]
  rw [if_pos ⟨hko, hc⟩]

theorem Own.map_put (E : KeyEnc ke P kt good) (k : Own O h (mpc ke ve i l :: R)) (ht : P.underlying t = some (.map kt e)) {x : K} {v : V} (hx : good x) (hl : ∀ p ∈ l, good p.1) (hn : (l.map (·.1)).Nodup) (hno : ∀ p ∈ l, p.1 ≠ x) :
    ∃ h', mapUpdW P h t (.map (some i)) (ke x) (ve v) = some h' ∧ h'.next = h.next ∧ Own O h' (mpc ke ve i (l ++ [(x, v)]) :: R) := by
  obtain ⟨bs, clock, hb, k1⟩ := mpc_iff.1 k
  have hu : updE (ents ke ve l bs).toArray clock (ke x) (ve v) = .map ((ents ke ve l bs).toArray.push ⟨ke x, ve v, clock⟩) (clock + 1) := by
    unfold updE
    rw [List.findIdx?_eq_none_iff.2 (fun y hy => ?_)]
    cases hq : isK (ke x) y
    · rfl
    · obtain ⟨p, hp, h1, _⟩ := ents_mem hy
      exact absurd (E.inj _ _ (h1.symm.trans (isK_iff.1 hq))) (hno p hp)
  refine ⟨h.set i _, by simp only [mapUpdW, ht, k1.obj]; rw [if_pos (E.keysOk hb.1 hx hl hn)], rfl, ?_⟩
  rw [hu]
  refine mpc_iff.2 ⟨bs ++ [clock], clock + 1, ⟨by simp [hb.1], ?_, fun b hm => ?_⟩, ?_⟩
  · rw [List.nodup_append]
    exact ⟨hb.2.1, by simp, fun a ha b hb2 => by simp at hb2; subst hb2; exact Nat.ne_of_lt (hb.2.2 a ha)⟩
  · rcases List.mem_append.1 hm with hm | hm
    · exact Nat.lt_succ_of_lt (hb.2.2 b hm)
    · simp at hm; omega
  · have : (ents ke ve l bs).toArray.push ⟨ke x, ve v, clock⟩ = (ents ke ve (l ++ [(x, v)]) (bs ++ [clock])).toArray := by
      simp only [ents]
      rw [List.zipWith_append hb.1.symm]
      simp
    rw [← this]
    exact k1.set _

theorem Own.map_set (E : KeyEnc ke P kt good) (k : Own O h (mpc ke ve i l :: R)) (ht : P.underlying t = some (.map kt e)) {j : Nat} {x : K} {v0 v : V} (hx : good x) (hl : ∀ p ∈ l, good p.1) (hn : (l.map (·.1)).Nodup) (hj : l[j]? = some (x, v0)) :
    ∃ h', mapUpdW P h t (.map (some i)) (ke x) (ve v) = some h' ∧ h'.next = h.next ∧ Own O h' (mpc ke ve i (l.set j (x, v)) :: R) := by
  obtain ⟨bs, clock, hb, k1⟩ := mpc_iff.1 k
  have hko := E.keysOk (ve := ve) hb.1 hx hl hn
  have hjl : j < bs.length := by rw [hb.1]; exact (List.getElem?_eq_some_iff.1 hj).1
  have hm : (ents ke ve l bs)[j]? = some ⟨ke x, ve v0, bs[j]⟩ := by simp [ents, List.getElem?_zipWith, hj, hjl]
  have hu : updE (ents ke ve l bs).toArray clock (ke x) (ve v) = .map ((ents ke ve l bs).toArray.modify j fun e => { e with val := ve v }) clock := by
    unfold updE
    rw [findIdx_unique (k := ke x) (fun e => isK_iff) hko.2.2.2.2 hm rfl]
  refine ⟨h.set i _, by simp only [mapUpdW, ht, k1.obj]; rw [if_pos hko], rfl, ?_⟩
  rw [hu]
  refine mpc_iff.2 ⟨bs, clock, ⟨by simp [hb.1], hb.2.1, hb.2.2⟩, ?_⟩
  have : (ents ke ve l bs).toArray.modify j (fun e => { e with val := ve v }) = (ents ke ve (l.set j (x, v)) bs).toArray := by
    apply Array.ext'
    simp only [Array.toList_modify]
    apply List.ext_getElem?
    intro n
    simp only [List.getElem?_modify, ents, List.getElem?_zipWith, List.getElem?_set]
    by_cases hnj : j = n
    · subst hnj
      obtain ⟨hjl2, hj3⟩ := List.getElem?_eq_some_iff.1 hj
      simp [hj, hjl, hjl2, hj3]
    · simp [hnj]
  rw [← this]
  exact k1.set _

open Classical in
theorem Own.map_del (E : KeyEnc ke P kt good) (k : Own O h (mpc ke ve i l :: R)) (ht : P.underlying t = some (.map kt e)) {x : K} (hx : good x) (hl : ∀ p ∈ l, good p.1) (hn : (l.map (·.1)).Nodup) :
    ∃ h', delW P h t (.map (some i)) (ke x) = some h' ∧ h'.next = h.next ∧ Own O h' (mpc ke ve i (l.filter fun p => !decide (p.1 = x)) :: R) := by
  obtain ⟨bs, clock, hb, k1⟩ := mpc_iff.1 k
  have hko := E.keysOk (ve := ve) hb.1 hx hl hn
  refine ⟨h.set i _, by simp only [delW, ht, k1.obj]; rw [if_pos hko], rfl, ?_⟩
  have key : ∀ (l : List (K × V)) (bs : List Nat), bs.length = l.length → ∃ bs', bs'.length = (l.filter fun p => !decide (p.1 = x)).length ∧ bs'.Sublist bs ∧ (ents ke ve l bs).filter (fun e => !isK (ke x) e) = ents ke ve (l.filter fun p => !decide (p.1 = x)) bs' := by
    intro l
    induction l with
    | nil => intro bs hb; exact ⟨[], rfl, List.nil_sublist _, by simp [ents]⟩
    | cons p l ih =>
      intro bs hb
      cases bs with
      | nil => simp at hb
      | cons b bs =>
        obtain ⟨bs', h1, h2, h3⟩ := ih bs (by simpa using hb)
        have hd : ents ke ve (p :: l) (b :: bs) = ⟨ke p.1, ve p.2, b⟩ :: ents ke ve l bs := rfl
        by_cases hp : p.1 = x
        · have hk : isK (ke x) (⟨ke p.1, ve p.2, b⟩ : MapEntry) = true := isK_iff.2 (by simp [hp])
          refine ⟨bs', by simpa [hp] using h1, h2.cons _, ?_⟩
          rw [hd, List.filter_cons, hk]
          simpa [hp] using h3
        · have hk : isK (ke x) (⟨ke p.1, ve p.2, b⟩ : MapEntry) = false := by
            cases hq : isK (ke x) (⟨ke p.1, ve p.2, b⟩ : MapEntry)
            · rfl
            · exact absurd (E.inj _ _ (isK_iff.1 hq)) hp
          refine ⟨b :: bs', by simp [hp, h1], h2.cons_cons _, ?_⟩
          rw [hd, List.filter_cons, hk]
          simp only [Bool.not_false, if_true, h3]
          simp [hp, ents]
  obtain ⟨bs', h1, h2, h3⟩ := key l bs hb.1
  refine mpc_iff.2 ⟨bs', clock, ⟨h1, h2.nodup hb.2.1, fun b hm => hb.2.2 b (h2.subset hm)⟩, ?_⟩
  have : (ents ke ve l bs).toArray.filter (fun e => !isK (ke x) e) = (ents ke ve (l.filter fun p => !decide (p.1 = x)) bs').toArray := by
    rw [← h3]; apply Array.ext'; simp
  rw [← this]
  exact k1.set _

theorem Own.map_clear (k : Own O h (mpc ke ve i l :: R)) (ht : P.underlying t = some (.map kt e)) : ∃ h', clearW P h t (.map (some i)) = some h' ∧ h'.next = h.next ∧ Own O h' (mpc ke ve i [] :: R) := by
  obtain ⟨bs, clock, hb, k1⟩ := mpc_iff.1 k
  exact ⟨h.set i (.other (.map #[] clock)), by simp only [clearW, ht, k1.obj], rfl, mpc_iff.2 ⟨[], clock, ⟨rfl, List.nodup_nil, fun b hb => by cases hb⟩, k1.set _⟩⟩
end

/-! ### A step through a map -/
theorem awpL_nextE {P : Program} {ops : Array Oper} {Qn : St → AHeap → Prop} {o : Oper} {l : List Oper} {s : St} {h : AHeap} {x : Operand} {v : Value} (hop : o.op = .next x false) (hd : dstOk s o.dst = true) (hg : guardA ops s o.guard = some true) (hx : ev h.base s x = some v)
    (k : nextA h v fun v h' => awpL P ops Qn l (putO s o.dst v) h') : awpL P ops Qn (o :: l) s h := by
  refine ⟨hd, ?_⟩
  rw [hg]
  show stepA P o s h _
  unfold stepA
  have hn : evalOp P h s o.op = none := by rw [hop]; rfl
  rw [hn]
  simp only [hop, hx]
  exact k
theorem AWP.nextE {P : Program} {Q : Exit → St → AHeap → Prop} {ops : Array Oper} {o : Oper} {l : List Oper} {s : St} {h : AHeap} {x : Operand} {v : Value} {id : Nat} (hops : ops.toList = o :: l) (hop : o.op = .next x false) (hd : dstOk s o.dst = true) (hg : guardA ops s o.guard = some true) (hx : ev h.base s x = some v)
    (k : nextA h v fun v h' => awpL P ops (Q .normal) l (putO s o.dst v) h') : AWP P (.region id ops false) Q s h := by
  refine AWP.region ?_
  rw [hops]
  exact awpL_nextE hop hd hg hx k

/-! ### Entries, each with its stamp -/
section
variable {K V : Type} (ke : K → Value) (ve : V → Value)
def entz (z : (K × V) × Nat) : MapEntry := ⟨ke z.1.1, ve z.1.2, z.2⟩
/-- A map's entries with their stamps. -/
def mpz (i : Nat) (zs : List ((K × V) × Nat)) (clock : Nat) : Chunk := cell i (.other (.map (zs.map (entz ke ve)).toArray clock))
variable {ke ve} {good : K → Prop} {P : Program} {kt t e : TypeId} {O : Old} {h : AHeap} {R : List Chunk} {i : Nat}

theorem ents_zip : ∀ {l : List (K × V)} {bs : List Nat}, ents ke ve l bs = (l.zip bs).map (entz ke ve)
  | [], _ => rfl
  | _ :: _, [] => rfl
  | p :: l, b :: bs => by
    have := ents_zip (l := l) (bs := bs)
    simp only [ents, List.zipWith_cons_cons, List.zip_cons_cons, List.map_cons] at this ⊢
    rw [this]; rfl

theorem mpc_mpz {l : List (K × V)} : Own O h (mpc ke ve i l :: R) ↔ ∃ (zs : List ((K × V) × Nat)) (clock : Nat), zs.map (·.1) = l ∧ (zs.map (·.2)).Nodup ∧ (∀ z ∈ zs, z.2 < clock) ∧ Own O h (mpz ke ve i zs clock :: R) := by
  rw [mpc_iff]
  constructor
  · rintro ⟨bs, clock, ⟨h1, h2, h3⟩, k⟩
    refine ⟨l.zip bs, clock, List.map_fst_zip (by omega), by rw [List.map_snd_zip (by omega)]; exact h2, fun z hz => h3 _ (List.of_mem_zip hz).2, ?_⟩
    unfold mpz; rw [← ents_zip]; exact k
  · rintro ⟨zs, clock, rfl, h2, h3, k⟩
    refine ⟨zs.map (·.2), clock, ⟨by simp, h2, fun b hb => ?_⟩, ?_⟩
    · obtain ⟨z, hz, rfl⟩ := List.mem_map.1 hb; exact h3 z hz
    · rw [ents_zip]
      have : (zs.map (·.1)).zip (zs.map (·.2)) = zs := by
        apply List.ext_getElem?
        intro j
        simp [List.zip, List.getElem?_zipWith]
      rw [this]; exact k

/-- A range over a map begins. -/
theorem Own.rangeW {zs : List ((K × V) × Nat)} {clock : Nat} (k : Own O h (mpz ke ve i zs clock :: R)) (ht : P.underlying t = some (.map kt e)) :
    Ab.rangeW P h t (.map (some i)) = some (.pointer (some ⟨h.next, 0, none⟩), h.push (.other (.mapIter (some i) clock #[] clock))) := by
  simp only [Ab.rangeW, ht, Own.obj k]

/-- A step of a range. -/
theorem Own.nextA {zs : List ((K × V) × Nat)} {clock it since stepped : Nat} {seen : Array Nat} {Kp : Value → AHeap → Prop} (k : Own O h (cell it (.other (.mapIter (some i) since seen stepped)) :: mpz ke ve i zs clock :: R)) (hf : ∀ x, flatB (ke x) = true) (hz : ∀ z ∈ zs, z.2 < since) (hs : since ≤ stepped)
    (fin : (∀ z ∈ zs, z.2 ∈ seen) → Kp (.tuple #[.bool false]) h)
    (step : ∀ z ∈ zs, z.2 ∉ seen → Kp (.tuple #[.bool true, ke z.1.1, ve z.1.2]) (h.set it (.other (.mapIter (some i) since (seen.push z.2) clock)))) : Ab.nextA h (.pointer (some ⟨it, 0, none⟩)) Kp := by
  refine ⟨it, i, since, seen, stepped, _, clock, rfl, k.obj, Own.obj k.b1, fun x hx => ?_, hs, fun hall => fin fun z hz => ?_, fun x hx hn => ?_⟩
  · obtain ⟨z, hzm, rfl⟩ := List.mem_map.1 (hx : x ∈ zs.map (entz ke ve))
    exact ⟨hz z hzm, hf _⟩
  · have := hall (entz ke ve z) (by simp; exact ⟨_, _, _, hz, rfl⟩)
    exact this
  · obtain ⟨z, hzm, rfl⟩ := List.mem_map.1 (hx : x ∈ zs.map (entz ke ve))
    exact step z hzm hn

theorem find_z : ∀ {zs : List ((K × V) × Nat)} {z : (K × V) × Nat}, (zs.map (·.2)).Nodup → z ∈ zs → (zs.map (entz ke ve)).find? (·.born == z.2) = some (entz ke ve z)
  | [], _, _, hz => by cases hz
  | x :: zs, z, hn, hz => by
    simp only [List.map_cons, List.nodup_cons] at hn
    rw [List.map_cons, List.find?_cons]
    rcases List.mem_cons.1 hz with rfl | hz
    · simp [entz]
    · have : ((entz ke ve x).born == z.2) = false := by
        have hx : x.2 ≠ z.2 := fun e => hn.1 (by rw [e]; exact List.mem_map_of_mem hz)
        simpa [entz] using hx
      rw [this]
      exact find_z hn.2 hz

/-- What the step came to, read. -/
theorem Own.entryR {zs : List ((K × V) × Nat)} {clock it since : Nat} {seen : Array Nat} {z : (K × V) × Nat} (k : Own O h (cell it (.other (.mapIter (some i) since (seen.push z.2) clock)) :: mpz ke ve i zs clock :: R)) (hf : ∀ x, flatB (ke x) = true) (hn : (zs.map (·.2)).Nodup) (hz : z ∈ zs) :
    Ab.entryR h (.pointer (some ⟨it, 0, none⟩)) = some (.tuple #[ke z.1.1, ve z.1.2]) := by
  have e1 : (zs.map (entz ke ve)).toArray.toList = zs.map (entz ke ve) := rfl
  simp only [Ab.entryR, k.obj, Array.back?_push, Own.obj k.b1, if_true, e1, find_z (ke := ke) (ve := ve) hn hz]
  rw [if_pos (show flatB (entz ke ve z).key = true from hf _)]; rfl

open Classical in
/-- An entry goes. -/
theorem Own.delZ (E : KeyEnc ke P kt good) {zs : List ((K × V) × Nat)} {clock : Nat} (k : Own O h (mpz ke ve i zs clock :: R)) (ht : P.underlying t = some (.map kt e)) {z : (K × V) × Nat} (hz : z ∈ zs) (hl : ∀ z ∈ zs, good z.1.1) (hn : (zs.map (·.1.1)).Nodup) :
    ∃ h', delW P h t (.map (some i)) (ke z.1.1) = some h' ∧ h'.next = h.next ∧ Own O h' (mpz ke ve i (zs.filter fun y => !decide (y.1.1 = z.1.1)) clock :: R) := by
  have hko : keysOk P kt (ke z.1.1) (zs.map (entz ke ve)) := by
    refine ⟨E.law, E.flat _, E.lit _ (hl z hz), fun y hy => ?_, ?_⟩
    · obtain ⟨x, hx, rfl⟩ := List.mem_map.1 hy
      exact E.lit _ (hl x hx)
    · rw [List.map_map]
      have := nodup_map (f := ke) E.inj hn
      rwa [List.map_map] at this
  refine ⟨h.set i _, by simp only [delW, ht, Own.obj k]; rw [if_pos hko], rfl, ?_⟩
  have : (zs.map (entz ke ve)).toArray.filter (fun e => !isK (ke z.1.1) e) = ((zs.filter fun y => !decide (y.1.1 = z.1.1)).map (entz ke ve)).toArray := by
    apply Array.ext'
    simp only [Array.toList_filter, List.filter_map]
    congr 1
    apply List.filter_congr
    intro y hy
    simp only [Function.comp, entz]
    by_cases e1 : y.1.1 = z.1.1
    · rw [isK_iff.2 (by simp [e1])]; simp [e1]
    · have : isK (ke z.1.1) (⟨ke y.1.1, ve y.1.2, y.2⟩ : MapEntry) = false := by
        cases hq : isK (ke z.1.1) (⟨ke y.1.1, ve y.1.2, y.2⟩ : MapEntry)
        · rfl
        · exact absurd (E.inj _ _ (isK_iff.1 hq)) e1
      rw [this]; simp [e1]
  unfold mpz
  rw [← this]
  exact Own.set _ k
end

theorem inj_of_nodup {α β : Type} {f : α → β} : ∀ {l : List α} {x y : α}, (l.map f).Nodup → x ∈ l → y ∈ l → f x = f y → x = y
  | [], _, _, _, h, _, _ => by cases h
  | a :: l, x, y, hn, hx, hy, e => by
    simp only [List.map_cons, List.nodup_cons] at hn
    rcases List.mem_cons.1 hx with hxa | hxl
    · rcases List.mem_cons.1 hy with hya | hyl
      · rw [hxa, hya]
      · exact absurd (by rw [← hxa, e]; exact List.mem_map_of_mem hyl) hn.1
    · rcases List.mem_cons.1 hy with hya | hyl
      · exact absurd (by rw [← hya, ← e]; exact List.mem_map_of_mem hxl) hn.1
      · exact inj_of_nodup hn.2 hxl hyl e
end Ab
end

section
namespace Ab
open Go
set_option autoImplicit false
set_option linter.unusedVariables false
set_option linter.unusedSimpArgs false

/-! ### Records of which each owns something -/
section
variable {α γ : Type} (row : α → γ → List Value) (sub : α → γ → Chunk)
def gcells (xs : List α) (ws : List γ) : List (List Value) := List.zipWith row xs ws
def gsubs (xs : List α) (ws : List γ) : List Chunk := List.zipWith sub xs ws
/-- Records, each with what it owns. -/
def grecs (e : TypeId) (sz : Nat) (v : Value) (xs : List α) : Chunk := ex fun ws : List γ => pur (ws.length = xs.length) (star (os e sz v xs.length (gcells row xs ws).flatten :: gsubs sub xs ws))

variable {row sub} {O : Old} {h : AHeap} {R : List Chunk} {e : TypeId} {sz : Nat} {v : Value} {xs ys : List α} {ws : List γ}

theorem grecs_iff : Own O h (grecs row sub e sz v xs :: R) ↔ ∃ ws : List γ, ws.length = xs.length ∧ Own O h (os e sz v xs.length (gcells row xs ws).flatten :: (gsubs sub xs ws ++ R)) := by
  simp only [grecs, Own.ex_iff, Own.pur_iff, Own.star_iff, List.cons_append]

theorem gcells_length (hw : ws.length = xs.length) : (gcells row xs ws).length = xs.length := by simp [gcells, hw]
theorem gsubs_length (hw : ws.length = xs.length) : (gsubs sub xs ws).length = xs.length := by simp [gsubs, hw]
theorem gcells_all (hr : ∀ x w, (row x w).length = sz) : ∀ y ∈ gcells row xs ws, y.length = sz := by
  intro y hy
  obtain ⟨m, hm⟩ := List.mem_iff_getElem?.1 hy
  simp only [gcells, List.getElem?_zipWith] at hm
  split at hm
  · obtain rfl := Option.some.inj hm; exact hr _ _
  · cases hm
theorem gcells_flat (hr : ∀ x w, (row x w).length = sz) (hw : ws.length = xs.length) : (gcells row xs ws).flatten.length = xs.length * sz := by
  rw [flat_length (gcells_all hr), gcells_length hw]
theorem gcells_ok (hk : ∀ x w, (row x w).all okCell = true) : (gcells row xs ws).flatten.all okCell = true := by
  rw [List.all_eq_true]
  intro x hx
  obtain ⟨y, hy, hxy⟩ := List.mem_flatten.1 hx
  obtain ⟨m, hm⟩ := List.mem_iff_getElem?.1 hy
  simp only [gcells, List.getElem?_zipWith] at hm
  split at hm
  · obtain rfl := Option.some.inj hm
    exact List.all_eq_true.1 (hk _ _) x hxy
  · cases hm
theorem gcells_get {j : Nat} {x : α} {w : γ} (hx : xs[j]? = some x) (hw : ws[j]? = some w) : (gcells row xs ws)[j]? = some (row x w) := by simp [gcells, List.getElem?_zipWith, hx, hw]
theorem gsubs_get {j : Nat} {x : α} {w : γ} (hx : xs[j]? = some x) (hw : ws[j]? = some w) : (gsubs sub xs ws)[j]? = some (sub x w) := by simp [gsubs, List.getElem?_zipWith, hx, hw]
theorem gcells_app {zs : List γ} (hw : ws.length = xs.length) : gcells row (xs ++ ys) (ws ++ zs) = gcells row xs ws ++ gcells row ys zs := by
  simp only [gcells]; rw [List.zipWith_append hw.symm]
theorem gsubs_app {zs : List γ} (hw : ws.length = xs.length) : gsubs sub (xs ++ ys) (ws ++ zs) = gsubs sub xs ws ++ gsubs sub ys zs := by
  simp only [gsubs]; rw [List.zipWith_append hw.symm]

theorem Own.grecs_nil (e : TypeId) (sz : Nat) (k : Own O h R) : Own O h (grecs row sub e sz (.slice none 0 0) [] :: R) := grecs_iff.2 ⟨[], rfl, k.nil e sz⟩
theorem Own.grecs_new {i : Nat} (k : Own O h (cell i (.row [] e sz true false) :: R)) : Own O h (grecs row sub e sz (.slice (some ⟨i, 0, none⟩) 0 0) [] :: R) :=
  grecs_iff.2 ⟨[], rfl, k.os_mk (n := 0) (cap := 0) (off := 0) (cs := []) (Nat.le_refl _) (by simp) (by simp)⟩
theorem Own.grecs_val (k : Own O h (grecs row sub e sz v xs :: R)) : ∃ a cap, v = .slice a xs.length cap := by
  obtain ⟨ws, _, k⟩ := grecs_iff.1 k; exact k.os_val

/-- A record that is read, where all stands open. -/
theorem Own.grec_at {P : Program} {t : TypeId} (hr : ∀ x w, (row x w).length = sz) (hw : ws.length = xs.length) (k : Own O h (os e sz v xs.length (gcells row xs ws).flatten :: R)) (ht : P.underlying t = some (.slice e)) (hs : tsz P e = some sz) {j : Nat} {x : α} {w : γ} (hx : xs[j]? = some x) (hwj : ws[j]? = some w) {kd : IntKind} :
    ∃ i off c ti, indexAddrP P t v (.int kd j) = some (.pointer (some ⟨i, off, none⟩)) ∧ h.obj i = some (.row c e sz ti false) ∧ off + sz ≤ c.length ∧ (c.drop off).take sz = row x w ∧ ∀ f y, (row x w)[f]? = some y → c[off + f]? = some y := by
  have hj : j < xs.length := (List.getElem?_eq_some_iff.1 hx).1
  rcases k.os_cases with ⟨rfl, h1, _⟩ | ⟨i, off, cap, c, ti, rfl, h1, h2, h3, k2⟩
  · omega
  · have hmul : (j + 1) * sz ≤ xs.length * sz := Nat.mul_le_mul_right _ hj
    have hmul2 : xs.length * sz ≤ cap * sz := Nat.mul_le_mul_right _ h1
    have hsucc : (j + 1) * sz = j * sz + sz := Nat.succ_mul _ _
    have e1 : (c.drop (off + j * sz)).take sz = row x w := by
      apply List.ext_getElem?
      intro f
      rw [List.getElem?_take]
      split
      · rename_i hf
        rw [List.getElem?_drop]
        have hg := flat_get (l := gcells row xs ws) (j := j) (f := f) (gcells_all hr) hf
        rw [gcells_get hx hwj, ← h3, List.getElem?_take, if_pos (by omega), List.getElem?_drop] at hg
        rw [show off + j * sz + f = off + (j * sz + f) by omega]
        exact hg
      · rw [List.getElem?_eq_none (by rw [hr]; omega)]
    refine ⟨i, off + j * sz, c, ti, ?_, k2.obj, by omega, e1, fun f y hy => ?_⟩
    · simp only [indexAddrP, ht, hs]
      simp [hj, show j < xs.length from hj]
    · rw [← e1, List.getElem?_take] at hy
      split at hy
      · rw [List.getElem?_drop] at hy; exact hy
      · cases hy

/-- One record more. -/
theorem Own.grecs_app {P : Program} {t xt : TypeId} {by_ i : Nat} {z : Value} {x : α} {w : γ} (ht : P.underlying t = some (.slice e)) (hs : tsz P e = some sz) (hb : tby P e = some by_) (hz : tzero P e = some z)
    (hn : noInt P xt = true) (h0 : 0 < sz) (h1 : 0 < by_) (h2 : z.cells.size = sz) (hp : (row x w).length = sz) (hok : (row x w).all okCell = true) (k : Own O h (grecs row sub e sz v xs :: sub x w :: R)) (hi : i = h.next) (hc : (xs.length + 1) * by_ ≤ 140737488355328) :
    ∃ a cap h', appendW P (h.push (.row (row x w) e sz true false)) t xt v (.slice (some ⟨i, 0, none⟩) 1 1) = some (.slice a (xs.length + 1) cap, h') ∧ Own O h' (grecs row sub e sz (.slice a (xs.length + 1) cap) (xs ++ [x]) :: R) := by
  obtain ⟨ws, hw, k⟩ := grecs_iff.1 k
  obtain ⟨a, cap, h', e1, k2⟩ := Own.appN (m := 1) (xs := row x w) ht hs hb hz hn h0 h1 h2 k hi (by omega) hok hc
  refine ⟨a, cap, h', e1, grecs_iff.2 ⟨ws ++ [w], by simp [hw], ?_⟩⟩
  have q1 : gcells row [x] [w] = [row x w] := rfl
  have q2 : gsubs sub [x] [w] = [sub x w] := rfl
  rw [gcells_app hw, gsubs_app hw, q1, q2, List.flatten_append, List.length_append, List.append_assoc]
  simpa using k2

/-- All records of a list behind those of another. -/
theorem Own.grecs_appAll {P : Program} {t xt : TypeId} {by_ : Nat} {z w : Value} (hr : ∀ x w, (row x w).length = sz) (hk : ∀ x w, (row x w).all okCell = true) (ht : P.underlying t = some (.slice e)) (hs : tsz P e = some sz) (hb : tby P e = some by_) (hz : tzero P e = some z)
    (hn : noInt P xt = true) (h0 : 0 < sz) (h1 : 0 < by_) (h2 : z.cells.size = sz) (k : Own O h (grecs row sub e sz v xs :: grecs row sub e sz w ys :: R)) (hc : (xs.length + ys.length) * by_ ≤ 140737488355328) :
    ∃ a cap h', appendW P h t xt v w = some (.slice a (xs.length + ys.length) cap, h') ∧ Own O h' (grecs row sub e sz (.slice a (xs.length + ys.length) cap) (xs ++ ys) :: R) := by
  obtain ⟨ws, hw, k1⟩ := grecs_iff.1 k
  obtain ⟨us, hu, k2⟩ := grecs_iff.1 ((k1.perm (L' := grecs row sub e sz w ys :: (os e sz v xs.length (gcells row xs ws).flatten :: (gsubs sub xs ws ++ R))) ((List.Perm.cons _ List.perm_middle).trans (List.Perm.swap _ _ _))))
  have sl := k2.os_sl
  obtain ⟨v', h', e1, k3⟩ := Own.app (P := P) (m := ys.length) (t := t) (xt := xt) (xs := (gcells row ys us).flatten) (xv := w) ht hs hb hz hn h0 h1 h2 (k2.tail.perm (L' := os e sz v xs.length (gcells row xs ws).flatten :: (gsubs sub ys us ++ (gsubs sub xs ws ++ R))) List.perm_middle) sl.src (gcells_flat hr hu) (gcells_ok hk) hc
  obtain ⟨a, cap, rfl⟩ := k3.os_val
  refine ⟨a, cap, h', e1, grecs_iff.2 ⟨ws ++ us, by simp [hw, hu], ?_⟩⟩
  rw [gcells_app hw, gsubs_app hw, List.flatten_append, List.length_append]
  refine k3.perm (List.Perm.cons _ ?_)
  rw [← List.append_assoc]
  exact List.Perm.append_right R List.perm_append_comm

/-- What one record owns, ahead; and all again behind it. -/
theorem Own.grec_sub (hw : ws.length = xs.length) {A : List Chunk} (k : Own O h (A ++ (gsubs sub xs ws ++ R))) {j : Nat} {x : α} {w : γ} (hx : xs[j]? = some x) (hwj : ws[j]? = some w) : Own O h (sub x w :: (A ++ ((gsubs sub xs ws).eraseIdx j ++ R))) := by
  have hp := (perm_bring (gsubs_get (sub := sub) hx hwj)).symm
  refine k.perm ?_
  refine ((List.Perm.append_left A (hp.append_right R))).trans ?_
  exact List.perm_middle
end

/-- An element of an array that lies in a variable. -/
theorem indexAddr_ptr {P : Program} {t : TypeId} {b off : Nat} {k : IntKind} {i : Int} : indexAddrP P t (.pointer (some ⟨b, off, none⟩)) (.int k i) = (match P.underlying t with
    | some (.array len elem) => if 0 ≤ i ∧ i < len then (tsz P elem).map fun n => .pointer (some ⟨b, off + i.toNat * n, none⟩) else none
    | _ => none) := rfl
attribute [go_sem] indexAddr_ptr
end Ab
end
