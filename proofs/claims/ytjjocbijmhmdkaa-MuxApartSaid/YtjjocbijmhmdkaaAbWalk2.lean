import Derived.Test.YtjjocbijmhmdkaaAbWalk
namespace Ab
open Go
set_option autoImplicit false
set_option linter.unusedVariables false
set_option linter.unusedSimpArgs false

/-! ### Drawn regions, with what was read -/
section
variable {P : Program} {ops : Array Oper} {s s2 : St} {h h2 : AHeap}

def obind3 {β : Type} : Option (St × AHeap × List (Nat × Ent)) → (St → AHeap → List (Nat × Ent) → Option β) → Option β
  | some p, k => k p.1 p.2.1 p.2.2
  | none, _ => none
theorem obind3_some {β : Type} {rc : List (Nat × Ent)} {k : St → AHeap → List (Nat × Ent) → Option β} : obind3 (some (s, h, rc)) k = k s h rc := by rw [obind3]

noncomputable def runDR (P : Program) (ops : Array Oper) : List PItem → St → AHeap → List (Nat × Ent) → Option (St × AHeap × List (Nat × Ent))
  | [], s, h, rc => some (s, h, rc)
  | .n i ts :: l, s, h, rc => obind3 (stepD P ops i ts rc s h) (runDR P ops l)
  | .w i ts [] :: l, s, h, rc => obind3 ((stepDW P ops (.w i ts []) s h).map fun p => (p.1, p.2, rc)) (runDR P ops l)
  | .w _ _ (_ :: _) :: _, _, _, _ => none

theorem runDR_nil {rc : List (Nat × Ent)} : runDR P ops [] s h rc = some (s, h, rc) := by rw [runDR]
theorem runDR_n {i : Nat} {ts : List Nat} {l : List PItem} {rc : List (Nat × Ent)} {n : Nat} {L : List (Nat × Value)} : runDR P ops (.n i ts :: l) ⟨n, L⟩ h rc = obind3 (stepD P ops i ts rc ⟨n, L⟩ h) (runDR P ops l) := by rw [runDR]

theorem awpD_of_runDR {Qn : St → AHeap → Prop} : ∀ (l l2 : List PItem) {rc rc' : List (Nat × Ent)} {s s' : St} {h h' : AHeap}, (∀ it ∈ l, ∃ i ts, it = .n i ts) → runDR P ops l s h rc = some (s', h', rc') → awpD P ops Qn l2 rc' s' h' → awpD P ops Qn (l ++ l2) rc s h
  | [], l2, rc, rc', s, s', h, h', _, e, k => by
    simp only [runDR, Option.some.injEq, Prod.mk.injEq] at e
    obtain ⟨rfl, rfl, rfl⟩ := e
    exact k
  | it :: l, l2, rc, rc', s, s', h, h', hn, e, k => by
    obtain ⟨i, ts, rfl⟩ := hn it (by simp)
    have ih := fun {rc s h} e => awpD_of_runDR (Qn := Qn) l l2 (rc := rc) (rc' := rc') (s := s) (h := h) (s' := s') (h' := h') (fun it hi => hn it (by simp [hi])) e k
    have e' : obind3 (stepD P ops i ts rc s h) (runDR P ops l) = some (s', h', rc') := by rw [← e, runDR]
    show awpD P ops Qn (.n i ts :: (l ++ l2)) rc s h
    cases hq : stepD P ops i ts rc s h with
    | none => rw [hq] at e'; cases e'
    | some q =>
    rw [hq] at e'
    unfold stepD at hq
    simp only [awpD]
    split at hq
    · cases hq
    · rename_i o ho
      rw [ho]
      split at hq
      · rename_i hd
        refine ⟨hd, ?_⟩
        split at hq
        · rename_i hg
          rw [hg]
          obtain rfl := Option.some.inj hq
          exact ih e'
        · rename_i hg
          rw [hg]
          simp only []
          split at hq
          · rename_i v hv
            rw [hv]
            obtain rfl := Option.some.inj hq
            exact ih e'
          · rename_i hv
            rw [hv]
            simp only [Option.map_eq_some_iff] at hq
            obtain ⟨⟨v, ob⟩, hv2, rfl⟩ := hq
            simp only [hv2]
            exact ih e'
        · cases hq
      · cases hq

/-- Up to a call, of which what was read ahead of it may hang. -/
theorem awpD_callR {Qn : St → AHeap → Prop} {l : List PItem} (n : Nat) {rc rc2 : List (Nat × Ent)} {i : Nat} {ts rs : List Nat} {o : Oper} {g : FuncId} {args : Array Value}
    (hl : l[n]? = some (.w i ts rs)) (hn : (l.take n).all (fun it => match it with | .n _ _ => true | _ => false) = true) (e : runDR P ops (l.take n) s h rc = some (s2, h2, rc2)) (ho : ops[i]? = some o) (hd : dstOk s2 o.dst = true)
    (hgd : guardA ops (s2.only ts) o.guard = some true) (ec : callOf (s2.only ts) h2 o.op = some (g, args)) (hg : goCall P g = true)
    (k : ACalls P g args h2 fun v h' => still P ops h' rc2 rs ∧ awpD P ops Qn (l.drop (n + 1)) ((i, .w v) :: rc2) (putO s2 o.dst v) h') : awpD P ops Qn l rc s h := by
  have hl2 : l = l.take n ++ .w i ts rs :: l.drop (n + 1) := by
    obtain ⟨hlt, he⟩ := List.getElem?_eq_some_iff.1 hl
    rw [← he, ← List.drop_eq_getElem_cons hlt, List.take_append_drop]
  rw [hl2]
  rw [List.all_eq_true] at hn
  refine awpD_of_runDR _ _ (fun it hi => ?_) e ?_
  · have := hn it hi
    cases it with
    | n i ts => exact ⟨i, ts, rfl⟩
    | w _ _ _ => cases this
  simp only [awpD]
  rw [ho]
  refine ⟨hd, ?_⟩
  rw [hgd]
  exact stepA_call ec hg k

/-- Up to a writing, of which what was read ahead of it may hang. -/
theorem awpD_writeR {Qn : St → AHeap → Prop} {l : List PItem} (n : Nat) {rc rc2 : List (Nat × Ent)} {i : Nat} {ts rs : List Nat} {o : Oper} {v : Value} {h3 : AHeap}
    (hl : l[n]? = some (.w i ts rs)) (hn : (l.take n).all (fun it => match it with | .n _ _ => true | _ => false) = true) (e : runDR P ops (l.take n) s h rc = some (s2, h2, rc2)) (ho : ops[i]? = some o) (hd : dstOk s2 o.dst = true)
    (hgd : guardA ops (s2.only ts) o.guard = some true) (ew : evalOp P h2 (s2.only ts) o.op = some (v, h3)) (hs : still P ops h3 rc2 rs)
    (k : awpD P ops Qn (l.drop (n + 1)) ((i, .w v) :: rc2) (putO s2 o.dst v) h3) : awpD P ops Qn l rc s h := by
  have hl2 : l = l.take n ++ .w i ts rs :: l.drop (n + 1) := by
    obtain ⟨hlt, he⟩ := List.getElem?_eq_some_iff.1 hl
    rw [← he, ← List.drop_eq_getElem_cons hlt, List.take_append_drop]
  rw [hl2]
  rw [List.all_eq_true] at hn
  refine awpD_of_runDR _ _ (fun it hi => ?_) e ?_
  · have := hn it hi
    cases it with
    | n i ts => exact ⟨i, ts, rfl⟩
    | w _ _ _ => cases this
  simp only [awpD]
  rw [ho]
  refine ⟨hd, ?_⟩
  rw [hgd]
  show stepA P o (s2.only ts) h2 _
  unfold stepA
  rw [ew]
  exact ⟨hs, k⟩

theorem awpD_restR {Qn : St → AHeap → Prop} {l : List PItem} {rc rc2 : List (Nat × Ent)} (hn : l.all (fun it => match it with | .n _ _ => true | _ => false) = true) (e : runDR P ops l s h rc = some (s2, h2, rc2)) (k : Qn s2 h2) : awpD P ops Qn l rc s h := by
  rw [List.all_eq_true] at hn
  have := awpD_of_runDR (Qn := Qn) l [] (fun it hi => by
    have := hn it hi
    cases it with
    | n i ts => exact ⟨i, ts, rfl⟩
    | w _ _ _ => cases this) e k
  rwa [List.append_nil] at this
end
attribute [go_sem] obind3_some runDR_nil runDR_n T

/-! ### Bytes and texts that are written -/
section
variable {O : Old} {h : AHeap} {R : List Chunk}
theorem Own.ob_write {P : Program} {t e : TypeId} {v : Value} {bs : List UInt8} (k : Own O h (ob e v bs :: R)) (ht : P.underlying t = some (.slice e)) (hs : tsz P e = some 1) {j : Nat} (hj : j < bs.length) (x : UInt8) {kd : IntKind} :
    ∃ i off c ti, indexAddrP P t v (.int kd j) = some (.pointer (some ⟨i, off, none⟩)) ∧ h.obj i = some (.row c e 1 ti false) ∧ off < c.length ∧ Own O (h.set i (.row (c.set off (.int .u8 x.toNat)) e 1 ti false)) (ob e v (bs.set j x) :: R) := by
  obtain ⟨i, off, c, ti, q1, q2, q3, k2⟩ := k.os_write ht hs hj (.int .u8 x.toNat) (kd := kd)
  refine ⟨i, off, c, ti, q1, q2, q3, ?_⟩
  have e2 : (bs.set j x).map B = (bs.map B).set j (.int .u8 x.toNat) := by rw [List.map_set]; rfl
  unfold ob; rw [e2, List.length_set]; exact k2

theorem Own.ts_write {P : Program} {t e : TypeId} {v : Value} {n : Nat} {ls : List (List UInt8)} (hn : n = ls.length) (k : Own O h (os e 1 v n (ls.map T) :: R)) (ht : P.underlying t = some (.slice e)) (hs : tsz P e = some 1) {j : Nat} (hj : j < n) (x : List UInt8) {kd : IntKind} :
    ∃ i off c ti, indexAddrP P t v (.int kd j) = some (.pointer (some ⟨i, off, none⟩)) ∧ h.obj i = some (.row c e 1 ti false) ∧ off < c.length ∧ Own O (h.set i (.row (c.set off (.string ⟨x.toArray⟩)) e 1 ti false)) (os e 1 v n ((ls.set j x).map T) :: R) := by
  obtain ⟨i, off, c, ti, q1, q2, q3, k2⟩ := k.os_write ht hs hj (.string ⟨x.toArray⟩) (kd := kd)
  refine ⟨i, off, c, ti, q1, q2, q3, ?_⟩
  rw [List.map_set]; exact k2

/-- A copy: what is put behind nothing. -/
theorem Own.copy {P : Program} {t xt e : TypeId} {xv : Value} {xs : List UInt8} (ht : P.underlying t = some (.slice e)) (hs : tsz P e = some 1) (hb : tby P e = some 1) (hz : tzero P e = some (.int .u8 0))
    (hn : noInt P xt = true) (k : Own O h R) (hx : ∀ h, Own O h R → Bytes h xv xs) (hc : xs.length ≤ 140737488355328) {i : Nat} (hi : i = h.next) :
    ∃ a cap h', appendW P (h.push (.row [] e 1 true false)) t xt (.slice (some ⟨i, 0, none⟩) 0 0) xv = some (.slice a xs.length cap, h') ∧ Own O h' (ob e (.slice a xs.length cap) xs :: R) := by
  subst hi
  have k1 : Own O (h.push (.row [] e 1 true false)) (ob e (.slice (some ⟨h.next, 0, none⟩) 0 0) [] :: R) := (k.push (.row [] e 1 true false)).os_mk (Nat.le_refl _) (by simp) (by simp)
  obtain ⟨a, cap, h', e1, k2⟩ := k1.appB ht hs hb hz hn (hx _ k1.tail).src (by simpa using hc)
  simp only [List.length_nil, Nat.zero_add, List.nil_append] at e1 k2
  exact ⟨a, cap, h', e1, k2⟩
end

/-! ### Texts as bytes, and byte by byte -/
theorem rowB {O : Old} {h : AHeap} {R : List Chunk} {i : Nat} {e : TypeId} {bs : List UInt8} {cs : List Value} {n : Nat} {ti : Bool} (k : Own O h (cell i (.row cs e 1 ti false) :: R)) (hc : cs = bs.map B) (hn : n = bs.length) : Bytes h (.slice (some ⟨i, 0, none⟩) n n) bs := by
  subst hn hc
  exact (k.os_mk (n := bs.length) (off := 0) (cap := bs.length) (cs := bs.map B) (Nat.le_refl _) (by simp) (by simp [List.take_of_length_le])).ob_bytes

theorem str_index {P : Program} {t : TypeId} (ht : P.underlying t = some .string) {l : List UInt8} {j : Nat} (hj : j < l.length) {kd : IntKind} : indexP P t (.string ⟨l.toArray⟩) (.int kd j) = some (.int .u8 l[j].toNat) := by
  have e : (⟨l.toArray⟩ : ByteArray)[j]? = some l[j] := by
    have : j < (⟨l.toArray⟩ : ByteArray).size := hj
    exact (getElem?_pos (⟨l.toArray⟩ : ByteArray) j this).trans rfl
  simp only [indexP, ht, Int.natCast_nonneg, if_true, Int.toNat_natCast, e]

theorem and_one (j : Nat) (hj : j < 9223372036854775808) : ((BitVec.ofInt 64 (j : Int) &&& BitVec.ofInt 64 1).toNat : Int) = ((j % 2 : Nat) : Int) := by
  rw [BitVec.ofInt_natCast, show BitVec.ofInt 64 1 = BitVec.ofNat 64 1 from rfl, BitVec.toNat_and, BitVec.toNat_ofNat, BitVec.toNat_ofNat, Nat.mod_eq_of_lt (by omega), show 1 % 2 ^ 64 = 1 from rfl, Nat.and_one_is_mod]

/-! ### Bits of numbers that are not below 0 -/
theorem and_i64 (a b : Nat) : @BitVec.toNat 64 (@HAnd.hAnd (BitVec 64) (BitVec 64) (BitVec 64) (@instHAndOfAndOp (BitVec IntKind.i64.bits) (@BitVec.instAndOp IntKind.i64.bits)) (BitVec.ofNat 64 a) (BitVec.ofNat 64 b)) = (a % 18446744073709551616) &&& (b % 18446744073709551616) :=
  (BitVec.toNat_and (BitVec.ofNat 64 a) (BitVec.ofNat 64 b)).trans rfl
theorem or_i64 (a b : Nat) : @BitVec.toNat 64 (@HOr.hOr (BitVec 64) (BitVec 64) (BitVec 64) (@instHOrOfOrOp (BitVec IntKind.i64.bits) (@BitVec.instOrOp IntKind.i64.bits)) (BitVec.ofNat 64 a) (BitVec.ofNat 64 b)) = (a % 18446744073709551616) ||| (b % 18446744073709551616) :=
  (BitVec.toNat_or (BitVec.ofNat 64 a) (BitVec.ofNat 64 b)).trans rfl
attribute [go_sem] and_i64 or_i64
end Ab
