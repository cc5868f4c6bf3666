import Derived.Test.YtjjocbijmhmdkaaAbWalk3
namespace Ab
open Go
set_option autoImplicit false
set_option linter.unusedVariables false
set_option linter.unusedSimpArgs false

/-! ### Maps that are one's own -/
section
variable {K V : Type} (ke : K → Value) (ve : V → Value)
def ents (l : List (K × V)) (bs : List Nat) : List MapEntry := List.zipWith (fun (p : K × V) b => (⟨ke p.1, ve p.2, b⟩ : MapEntry)) l bs
/-- A map, as it was laid in. -/
def mpc (i : Nat) (l : List (K × V)) : Chunk := ex fun bc : List Nat × Nat => pur (bc.1.length = l.length ∧ bc.1.Nodup ∧ ∀ b ∈ bc.1, b < bc.2) (cell i (.other (.map (ents ke ve l bc.1).toArray bc.2)))

/-- How keys are written as values. -/
structure KeyEnc (P : Program) (kt : TypeId) (good : K → Prop) : Prop where
  law : WideMaps.KeyLaw P kt
  flat : ∀ k, flatB (ke k) = true
  lit : ∀ k, good k → ∃ l, keyOf P kt (ke k) = some l
  inj : ∀ a b, ke a = ke b → a = b
end

section
variable {K V : Type} {ke : K → Value} {ve : V → Value} {good : K → Prop} {P : Program} {kt t e : TypeId} {O : Old} {h : AHeap} {R : List Chunk} {i : Nat} {l : List (K × V)} {bs : List Nat} {clock : Nat}

theorem mpc_iff : Own O h (mpc ke ve i l :: R) ↔ ∃ (bs : List Nat) (clock : Nat), (bs.length = l.length ∧ bs.Nodup ∧ ∀ b ∈ bs, b < clock) ∧ Own O h (cell i (.other (.map (ents ke ve l bs).toArray clock)) :: R) := by
  simp only [mpc, Own.ex_iff, Own.pur_iff]
  exact ⟨fun ⟨x, a, b⟩ => ⟨x.1, x.2, a, b⟩, fun ⟨bs, c, a, b⟩ => ⟨(bs, c), a, b⟩⟩

theorem ents_keys : ∀ {l : List (K × V)} {bs : List Nat}, bs.length = l.length → (ents ke ve l bs).map (·.key) = l.map fun p => ke p.1
  | [], [], _ => rfl
  | p :: l, b :: bs, h => by
    simp only [ents, List.zipWith_cons_cons, List.map_cons]
    have := ents_keys (l := l) (bs := bs) (by simpa using h)
    rw [← this]; rfl
  | [], _ :: _, h => by simp at h
  | _ :: _, [], h => by simp at h
theorem ents_borns : ∀ {l : List (K × V)} {bs : List Nat}, bs.length = l.length → (ents ke ve l bs).map (·.born) = bs
  | [], [], _ => rfl
  | p :: l, b :: bs, h => by
    simp only [ents, List.zipWith_cons_cons, List.map_cons]
    have := ents_borns (l := l) (bs := bs) (by simpa using h)
    simp only [ents] at this
    rw [this]
  | [], _ :: _, h => by simp at h
  | _ :: _, [], h => by simp at h
theorem ents_length (hb : bs.length = l.length) : (ents ke ve l bs).length = l.length := by simp [ents, hb]
theorem ents_get {j : Nat} {x : MapEntry} (hx : (ents ke ve l bs)[j]? = some x) : ∃ p b, l[j]? = some p ∧ bs[j]? = some b ∧ x = ⟨ke p.1, ve p.2, b⟩ := by
  simp only [ents, List.getElem?_zipWith] at hx
  split at hx
  · rename_i p b h1 h2; exact ⟨p, b, h1, h2, (Option.some.inj hx).symm⟩
  · cases hx
theorem ents_mem {x : MapEntry} (hx : x ∈ ents ke ve l bs) : ∃ p, p ∈ l ∧ x.key = ke p.1 ∧ x.val = ve p.2 ∧ x.born ∈ bs := by
  obtain ⟨j, hj⟩ := List.mem_iff_getElem?.1 hx
  obtain ⟨p, b, h1, h2, rfl⟩ := ents_get hj
  exact ⟨p, List.mem_of_getElem? h1, rfl, rfl, List.mem_of_getElem? h2⟩

theorem nodup_map {α β : Type} {f : α → β} (hf : ∀ a b, f a = f b → a = b) : ∀ {l : List α}, l.Nodup → (l.map f).Nodup
  | [], _ => List.nodup_nil
  | x :: l, h => by
    rw [List.nodup_cons] at h
    rw [List.map_cons, List.nodup_cons]
    refine ⟨fun hx => ?_, nodup_map hf h.2⟩
    obtain ⟨y, hy, e⟩ := List.mem_map.1 hx
    exact h.1 (hf _ _ e ▸ hy)

theorem KeyEnc.keysOk (E : KeyEnc ke P kt good) (hb : bs.length = l.length) {x : K} (hx : good x) (hl : ∀ p ∈ l, good p.1) (hn : (l.map (·.1)).Nodup) : Ab.keysOk P kt (ke x) (ents ke ve l bs) := by
  refine ⟨E.law, E.flat x, E.lit x hx, fun y hy => ?_, ?_⟩
  · obtain ⟨p, hp, h1, _⟩ := ents_mem hy
    rw [h1]; exact E.lit _ (hl p hp)
  · rw [ents_keys hb]
    have := nodup_map (f := ke) E.inj hn
    rwa [List.map_map] at this

theorem Own.map_new (k : Own O h R) : Own O (h.push (.other (.map #[] 0))) (mpc ke ve h.next [] :: R) :=
  mpc_iff.2 ⟨[], 0, ⟨rfl, List.nodup_nil, fun b hb => by cases hb⟩, k.push _⟩

theorem Own.map_len (k : Own O h (mpc ke ve i l :: R)) (ht : P.underlying t = some (.map kt e)) : lenE P h t (.map (some i)) = some (.int .i64 l.length) := by
  obtain ⟨bs, clock, hb, k1⟩ := mpc_iff.1 k
  simp only [lenE, ht, k1.obj, List.size_toArray, ents_length hb.1]

theorem Own.map_obj (k : Own O h (mpc ke ve i l :: R)) : ∃ es clock, h.obj i = some (.other (.map es clock)) ∧ es.size = l.length := by
  obtain ⟨bs, clock, hb, k1⟩ := mpc_iff.1 k
  exact ⟨_, _, k1.obj, by simp [ents_length hb.1]⟩

theorem Own.map_miss (E : KeyEnc ke P kt good) (k : Own O h (mpc ke ve i l :: R)) (ht : P.underlying t = some (.map kt e)) {z : Value} (hz : tzero P e = some z) (hc : constOk z = true) {x : K} (hx : good x) (hl : ∀ p ∈ l, good p.1) (hn : (l.map (·.1)).Nodup) (hno : ∀ p ∈ l, p.1 ≠ x) (ok : Bool) :
    lookupR P h t (.map (some i)) (ke x) ok = some (if ok then .tuple #[z, .bool false] else z) := by
  obtain ⟨bs, clock, hb, k1⟩ := mpc_iff.1 k
  have hf : findE (ke x) (ents ke ve l bs) = none := findE_none fun y hy hk => by
    obtain ⟨p, hp, h1, _⟩ := ents_mem hy
    exact hno p hp (E.inj _ _ (h1.symm.trans hk))
  simp only [lookupR, ht, hz, Option.bind_some, mapE, k1.obj, hf]
  rw [if_pos ⟨E.keysOk hb.1 hx hl hn, hc⟩]

theorem Own.map_hit (E : KeyEnc ke P kt good) (k : Own O h (mpc ke ve i l :: R)) (ht : P.underlying t = some (.map kt e)) {z : Value} (hz : tzero P e = some z) (hc : constOk z = true) {x : K} {v : V} (hx : good x) (hl : ∀ p ∈ l, good p.1) (hn : (l.map (·.1)).Nodup) (hin : (x, v) ∈ l) (ok : Bool) :
    lookupR P h t (.map (some i)) (ke x) ok = some (if ok then .tuple #[ve v, .bool true] else ve v) := by
  obtain ⟨bs, clock, hb, k1⟩ := mpc_iff.1 k
  obtain ⟨j, hj⟩ := List.mem_iff_getElem?.1 hin
  have hko := E.keysOk (ve := ve) hb.1 hx hl hn
  have hjl : j < bs.length := by rw [hb.1]; exact (List.getElem?_eq_some_iff.1 hj).1
  have hm : (⟨ke x, ve v, bs[j]⟩ : MapEntry) ∈ ents ke ve l bs := by
    refine List.mem_of_getElem? (i := j) ?_
    simp [ents, List.getElem?_zipWith, hj, hjl]
  have hf : findE (ke x) (ents ke ve l bs) = some (ve v) := findE_some hko.2.2.2.2 hm rfl
  simp only [lookupR, ht, hz, Option.bind_some, mapE, k1.obj, hf]
  rw [if_pos ⟨hko, hc⟩]

theorem Own.map_put (E : KeyEnc ke P kt good) (k : Own O h (mpc ke ve i l :: R)) (ht : P.underlying t = some (.map kt e)) {x : K} {v : V} (hx : good x) (hl : ∀ p ∈ l, good p.1) (hn : (l.map (·.1)).Nodup) (hno : ∀ p ∈ l, p.1 ≠ x) :
    ∃ h', mapUpdW P h t (.map (some i)) (ke x) (ve v) = some h' ∧ h'.next = h.next ∧ Own O h' (mpc ke ve i (l ++ [(x, v)]) :: R) := by
  obtain ⟨bs, clock, hb, k1⟩ := mpc_iff.1 k
  have hu : updE (ents ke ve l bs).toArray clock (ke x) (ve v) = .map ((ents ke ve l bs).toArray.push ⟨ke x, ve v, clock⟩) (clock + 1) := by
    unfold updE
    rw [List.findIdx?_eq_none_iff.2 (fun y hy => ?_)]
    cases hq : isK (ke x) y
    · rfl
    · obtain ⟨p, hp, h1, _⟩ := ents_mem hy
      exact absurd (E.inj _ _ (h1.symm.trans (isK_iff.1 hq))) (hno p hp)
  refine ⟨h.set i _, by simp only [mapUpdW, ht, k1.obj]; rw [if_pos (E.keysOk hb.1 hx hl hn)], rfl, ?_⟩
  rw [hu]
  refine mpc_iff.2 ⟨bs ++ [clock], clock + 1, ⟨by simp [hb.1], ?_, fun b hm => ?_⟩, ?_⟩
  · rw [List.nodup_append]
    exact ⟨hb.2.1, by simp, fun a ha b hb2 => by simp at hb2; subst hb2; exact Nat.ne_of_lt (hb.2.2 a ha)⟩
  · rcases List.mem_append.1 hm with hm | hm
    · exact Nat.lt_succ_of_lt (hb.2.2 b hm)
    · simp at hm; omega
  · have : (ents ke ve l bs).toArray.push ⟨ke x, ve v, clock⟩ = (ents ke ve (l ++ [(x, v)]) (bs ++ [clock])).toArray := by
      simp only [ents]
      rw [List.zipWith_append hb.1.symm]
      simp
    rw [← this]
    exact k1.set _

theorem Own.map_set (E : KeyEnc ke P kt good) (k : Own O h (mpc ke ve i l :: R)) (ht : P.underlying t = some (.map kt e)) {j : Nat} {x : K} {v0 v : V} (hx : good x) (hl : ∀ p ∈ l, good p.1) (hn : (l.map (·.1)).Nodup) (hj : l[j]? = some (x, v0)) :
    ∃ h', mapUpdW P h t (.map (some i)) (ke x) (ve v) = some h' ∧ h'.next = h.next ∧ Own O h' (mpc ke ve i (l.set j (x, v)) :: R) := by
  obtain ⟨bs, clock, hb, k1⟩ := mpc_iff.1 k
  have hko := E.keysOk (ve := ve) hb.1 hx hl hn
  have hjl : j < bs.length := by rw [hb.1]; exact (List.getElem?_eq_some_iff.1 hj).1
  have hm : (ents ke ve l bs)[j]? = some ⟨ke x, ve v0, bs[j]⟩ := by simp [ents, List.getElem?_zipWith, hj, hjl]
  have hu : updE (ents ke ve l bs).toArray clock (ke x) (ve v) = .map ((ents ke ve l bs).toArray.modify j fun e => { e with val := ve v }) clock := by
    unfold updE
    rw [findIdx_unique (k := ke x) (fun e => isK_iff) hko.2.2.2.2 hm rfl]
  refine ⟨h.set i _, by simp only [mapUpdW, ht, k1.obj]; rw [if_pos hko], rfl, ?_⟩
  rw [hu]
  refine mpc_iff.2 ⟨bs, clock, ⟨by simp [hb.1], hb.2.1, hb.2.2⟩, ?_⟩
  have : (ents ke ve l bs).toArray.modify j (fun e => { e with val := ve v }) = (ents ke ve (l.set j (x, v)) bs).toArray := by
    apply Array.ext'
    simp only [Array.toList_modify]
    apply List.ext_getElem?
    intro n
    simp only [List.getElem?_modify, ents, List.getElem?_zipWith, List.getElem?_set]
    by_cases hnj : j = n
    · subst hnj
      obtain ⟨hjl2, hj3⟩ := List.getElem?_eq_some_iff.1 hj
      simp [hj, hjl, hjl2, hj3]
    · simp [hnj]
  rw [← this]
  exact k1.set _

open Classical in
theorem Own.map_del (E : KeyEnc ke P kt good) (k : Own O h (mpc ke ve i l :: R)) (ht : P.underlying t = some (.map kt e)) {x : K} (hx : good x) (hl : ∀ p ∈ l, good p.1) (hn : (l.map (·.1)).Nodup) :
    ∃ h', delW P h t (.map (some i)) (ke x) = some h' ∧ h'.next = h.next ∧ Own O h' (mpc ke ve i (l.filter fun p => !decide (p.1 = x)) :: R) := by
  obtain ⟨bs, clock, hb, k1⟩ := mpc_iff.1 k
  have hko := E.keysOk (ve := ve) hb.1 hx hl hn
  refine ⟨h.set i _, by simp only [delW, ht, k1.obj]; rw [if_pos hko], rfl, ?_⟩
  have key : ∀ (l : List (K × V)) (bs : List Nat), bs.length = l.length → ∃ bs', bs'.length = (l.filter fun p => !decide (p.1 = x)).length ∧ bs'.Sublist bs ∧ (ents ke ve l bs).filter (fun e => !isK (ke x) e) = ents ke ve (l.filter fun p => !decide (p.1 = x)) bs' := by
    intro l
    induction l with
    | nil => intro bs hb; exact ⟨[], rfl, List.nil_sublist _, by simp [ents]⟩
    | cons p l ih =>
      intro bs hb
      cases bs with
      | nil => simp at hb
      | cons b bs =>
        obtain ⟨bs', h1, h2, h3⟩ := ih bs (by simpa using hb)
        have hd : ents ke ve (p :: l) (b :: bs) = ⟨ke p.1, ve p.2, b⟩ :: ents ke ve l bs := rfl
        by_cases hp : p.1 = x
        · have hk : isK (ke x) (⟨ke p.1, ve p.2, b⟩ : MapEntry) = true := isK_iff.2 (by simp [hp])
          refine ⟨bs', by simpa [hp] using h1, h2.cons _, ?_⟩
          rw [hd, List.filter_cons, hk]
          simpa [hp] using h3
        · have hk : isK (ke x) (⟨ke p.1, ve p.2, b⟩ : MapEntry) = false := by
            cases hq : isK (ke x) (⟨ke p.1, ve p.2, b⟩ : MapEntry)
            · rfl
            · exact absurd (E.inj _ _ (isK_iff.1 hq)) hp
          refine ⟨b :: bs', by simp [hp, h1], h2.cons_cons _, ?_⟩
          rw [hd, List.filter_cons, hk]
          simp only [Bool.not_false, if_true, h3]
          simp [hp, ents]
  obtain ⟨bs', h1, h2, h3⟩ := key l bs hb.1
  refine mpc_iff.2 ⟨bs', clock, ⟨h1, h2.nodup hb.2.1, fun b hm => hb.2.2 b (h2.subset hm)⟩, ?_⟩
  have : (ents ke ve l bs).toArray.filter (fun e => !isK (ke x) e) = (ents ke ve (l.filter fun p => !decide (p.1 = x)) bs').toArray := by
    rw [← h3]; apply Array.ext'; simp
  rw [← this]
  exact k1.set _

theorem Own.map_clear (k : Own O h (mpc ke ve i l :: R)) (ht : P.underlying t = some (.map kt e)) : ∃ h', clearW P h t (.map (some i)) = some h' ∧ h'.next = h.next ∧ Own O h' (mpc ke ve i [] :: R) := by
  obtain ⟨bs, clock, hb, k1⟩ := mpc_iff.1 k
  exact ⟨h.set i (.other (.map #[] clock)), by simp only [clearW, ht, k1.obj], rfl, mpc_iff.2 ⟨[], clock, ⟨rfl, List.nodup_nil, fun b hb => by cases hb⟩, k1.set _⟩⟩
end

/-! ### A step through a map -/
theorem awpL_nextE {P : Program} {ops : Array Oper} {Qn : St → AHeap → Prop} {o : Oper} {l : List Oper} {s : St} {h : AHeap} {x : Operand} {v : Value} (hop : o.op = .next x false) (hd : dstOk s o.dst = true) (hg : guardA ops s o.guard = some true) (hx : ev h.base s x = some v)
    (k : nextA h v fun v h' => awpL P ops Qn l (putO s o.dst v) h') : awpL P ops Qn (o :: l) s h := by
  refine ⟨hd, ?_⟩
  rw [hg]
  show stepA P o s h _
  unfold stepA
  have hn : evalOp P h s o.op = none := by rw [hop]; rfl
  rw [hn]
  simp only [hop, hx]
  exact k
theorem AWP.nextE {P : Program} {Q : Exit → St → AHeap → Prop} {ops : Array Oper} {o : Oper} {l : List Oper} {s : St} {h : AHeap} {x : Operand} {v : Value} {id : Nat} (hops : ops.toList = o :: l) (hop : o.op = .next x false) (hd : dstOk s o.dst = true) (hg : guardA ops s o.guard = some true) (hx : ev h.base s x = some v)
    (k : nextA h v fun v h' => awpL P ops (Q .normal) l (putO s o.dst v) h') : AWP P (.region id ops false) Q s h := by
  refine AWP.region ?_
  rw [hops]
  exact awpL_nextE hop hd hg hx k

/-! ### Entries, each with its stamp -/
section
variable {K V : Type} (ke : K → Value) (ve : V → Value)
def entz (z : (K × V) × Nat) : MapEntry := ⟨ke z.1.1, ve z.1.2, z.2⟩
/-- A map's entries with their stamps. -/
def mpz (i : Nat) (zs : List ((K × V) × Nat)) (clock : Nat) : Chunk := cell i (.other (.map (zs.map (entz ke ve)).toArray clock))
variable {ke ve} {good : K → Prop} {P : Program} {kt t e : TypeId} {O : Old} {h : AHeap} {R : List Chunk} {i : Nat}

theorem ents_zip : ∀ {l : List (K × V)} {bs : List Nat}, ents ke ve l bs = (l.zip bs).map (entz ke ve)
  | [], _ => rfl
  | _ :: _, [] => rfl
  | p :: l, b :: bs => by
    have := ents_zip (l := l) (bs := bs)
    simp only [ents, List.zipWith_cons_cons, List.zip_cons_cons, List.map_cons] at this ⊢
    rw [this]; rfl

theorem mpc_mpz {l : List (K × V)} : Own O h (mpc ke ve i l :: R) ↔ ∃ (zs : List ((K × V) × Nat)) (clock : Nat), zs.map (·.1) = l ∧ (zs.map (·.2)).Nodup ∧ (∀ z ∈ zs, z.2 < clock) ∧ Own O h (mpz ke ve i zs clock :: R) := by
  rw [mpc_iff]
  constructor
  · rintro ⟨bs, clock, ⟨h1, h2, h3⟩, k⟩
    refine ⟨l.zip bs, clock, List.map_fst_zip (by omega), by rw [List.map_snd_zip (by omega)]; exact h2, fun z hz => h3 _ (List.of_mem_zip hz).2, ?_⟩
    unfold mpz; rw [← ents_zip]; exact k
  · rintro ⟨zs, clock, rfl, h2, h3, k⟩
    refine ⟨zs.map (·.2), clock, ⟨by simp, h2, fun b hb => ?_⟩, ?_⟩
    · obtain ⟨z, hz, rfl⟩ := List.mem_map.1 hb; exact h3 z hz
    · rw [ents_zip]
      have : (zs.map (·.1)).zip (zs.map (·.2)) = zs := by
        apply List.ext_getElem?
        intro j
        simp [List.zip, List.getElem?_zipWith]
      rw [this]; exact k

/-- A range over a map begins. -/
theorem Own.rangeW {zs : List ((K × V) × Nat)} {clock : Nat} (k : Own O h (mpz ke ve i zs clock :: R)) (ht : P.underlying t = some (.map kt e)) :
    Ab.rangeW P h t (.map (some i)) = some (.pointer (some ⟨h.next, 0, none⟩), h.push (.other (.mapIter (some i) clock #[] clock))) := by
  simp only [Ab.rangeW, ht, Own.obj k]

/-- A step of a range. -/
theorem Own.nextA {zs : List ((K × V) × Nat)} {clock it since stepped : Nat} {seen : Array Nat} {Kp : Value → AHeap → Prop} (k : Own O h (cell it (.other (.mapIter (some i) since seen stepped)) :: mpz ke ve i zs clock :: R)) (hf : ∀ x, flatB (ke x) = true) (hz : ∀ z ∈ zs, z.2 < since) (hs : since ≤ stepped)
    (fin : (∀ z ∈ zs, z.2 ∈ seen) → Kp (.tuple #[.bool false]) h)
    (step : ∀ z ∈ zs, z.2 ∉ seen → Kp (.tuple #[.bool true, ke z.1.1, ve z.1.2]) (h.set it (.other (.mapIter (some i) since (seen.push z.2) clock)))) : Ab.nextA h (.pointer (some ⟨it, 0, none⟩)) Kp := by
  refine ⟨it, i, since, seen, stepped, _, clock, rfl, k.obj, Own.obj k.b1, fun x hx => ?_, hs, fun hall => fin fun z hz => ?_, fun x hx hn => ?_⟩
  · obtain ⟨z, hzm, rfl⟩ := List.mem_map.1 (hx : x ∈ zs.map (entz ke ve))
    exact ⟨hz z hzm, hf _⟩
  · have := hall (entz ke ve z) (by simp; exact ⟨_, _, _, hz, rfl⟩)
    exact this
  · obtain ⟨z, hzm, rfl⟩ := List.mem_map.1 (hx : x ∈ zs.map (entz ke ve))
    exact step z hzm hn

theorem find_z : ∀ {zs : List ((K × V) × Nat)} {z : (K × V) × Nat}, (zs.map (·.2)).Nodup → z ∈ zs → (zs.map (entz ke ve)).find? (·.born == z.2) = some (entz ke ve z)
  | [], _, _, hz => by cases hz
  | x :: zs, z, hn, hz => by
    simp only [List.map_cons, List.nodup_cons] at hn
    rw [List.map_cons, List.find?_cons]
    rcases List.mem_cons.1 hz with rfl | hz
    · simp [entz]
    · have : ((entz ke ve x).born == z.2) = false := by
        have hx : x.2 ≠ z.2 := fun e => hn.1 (by rw [e]; exact List.mem_map_of_mem hz)
        simpa [entz] using hx
      rw [this]
      exact find_z hn.2 hz

/-- What the step came to, read. -/
theorem Own.entryR {zs : List ((K × V) × Nat)} {clock it since : Nat} {seen : Array Nat} {z : (K × V) × Nat} (k : Own O h (cell it (.other (.mapIter (some i) since (seen.push z.2) clock)) :: mpz ke ve i zs clock :: R)) (hf : ∀ x, flatB (ke x) = true) (hn : (zs.map (·.2)).Nodup) (hz : z ∈ zs) :
    Ab.entryR h (.pointer (some ⟨it, 0, none⟩)) = some (.tuple #[ke z.1.1, ve z.1.2]) := by
  have e1 : (zs.map (entz ke ve)).toArray.toList = zs.map (entz ke ve) := rfl
  simp only [Ab.entryR, k.obj, Array.back?_push, Own.obj k.b1, if_true, e1, find_z (ke := ke) (ve := ve) hn hz]
  rw [if_pos (show flatB (entz ke ve z).key = true from hf _)]; rfl

open Classical in
/-- An entry goes. -/
theorem Own.delZ (E : KeyEnc ke P kt good) {zs : List ((K × V) × Nat)} {clock : Nat} (k : Own O h (mpz ke ve i zs clock :: R)) (ht : P.underlying t = some (.map kt e)) {z : (K × V) × Nat} (hz : z ∈ zs) (hl : ∀ z ∈ zs, good z.1.1) (hn : (zs.map (·.1.1)).Nodup) :
    ∃ h', delW P h t (.map (some i)) (ke z.1.1) = some h' ∧ h'.next = h.next ∧ Own O h' (mpz ke ve i (zs.filter fun y => !decide (y.1.1 = z.1.1)) clock :: R) := by
  have hko : keysOk P kt (ke z.1.1) (zs.map (entz ke ve)) := by
    refine ⟨E.law, E.flat _, E.lit _ (hl z hz), fun y hy => ?_, ?_⟩
    · obtain ⟨x, hx, rfl⟩ := List.mem_map.1 hy
      exact E.lit _ (hl x hx)
    · rw [List.map_map]
      have := nodup_map (f := ke) E.inj hn
      rwa [List.map_map] at this
  refine ⟨h.set i _, by simp only [delW, ht, Own.obj k]; rw [if_pos hko], rfl, ?_⟩
  have : (zs.map (entz ke ve)).toArray.filter (fun e => !isK (ke z.1.1) e) = ((zs.filter fun y => !decide (y.1.1 = z.1.1)).map (entz ke ve)).toArray := by
    apply Array.ext'
    simp only [Array.toList_filter, List.filter_map]
    congr 1
    apply List.filter_congr
    intro y hy
    simp only [Function.comp, entz]
    by_cases e1 : y.1.1 = z.1.1
    · rw [isK_iff.2 (by simp [e1])]; simp [e1]
    · have : isK (ke z.1.1) (⟨ke y.1.1, ve y.1.2, y.2⟩ : MapEntry) = false := by
        cases hq : isK (ke z.1.1) (⟨ke y.1.1, ve y.1.2, y.2⟩ : MapEntry)
        · rfl
        · exact absurd (E.inj _ _ (isK_iff.1 hq)) e1
      rw [this]; simp [e1]
  unfold mpz
  rw [← this]
  exact Own.set _ k
end

theorem inj_of_nodup {α β : Type} {f : α → β} : ∀ {l : List α} {x y : α}, (l.map f).Nodup → x ∈ l → y ∈ l → f x = f y → x = y
  | [], _, _, _, h, _, _ => by cases h
  | a :: l, x, y, hn, hx, hy, e => by
    simp only [List.map_cons, List.nodup_cons] at hn
    rcases List.mem_cons.1 hx with hxa | hxl
    · rcases List.mem_cons.1 hy with hya | hyl
      · rw [hxa, hya]
      · exact absurd (by rw [← hxa, e]; exact List.mem_map_of_mem hyl) hn.1
    · rcases List.mem_cons.1 hy with hya | hyl
      · exact absurd (by rw [← hya, ← e]; exact List.mem_map_of_mem hxl) hn.1
      · exact inj_of_nodup hn.2 hxl hyl e
end Ab
