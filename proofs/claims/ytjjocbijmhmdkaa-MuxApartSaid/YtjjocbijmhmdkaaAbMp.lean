import Derived.Test.YtjjocbijmhmdkaaAbK
import Derived.WideKeyMaps
import Derived.DeepKeys4
import Derived.Laws.StructEq
import Derived.Laws.IdiomRangeMap
namespace Ab
open Go
set_option autoImplicit false
set_option linter.unusedVariables false
set_option linter.unusedSimpArgs false

/-! ### Maps, and structs that are compared -/
def flat1 : Value → Bool
  | .bool _ | .int _ _ | .string _ => true
  | _ => false
/-- A value without references. -/
def flatB : Value → Bool
  | .agg cs => cs.toList.all flat1
  | v => flat1 v

theorem VRel.flat1 {M : Mp} {v v' : Value} (h : VRel M v v') (hf : flat1 v = true) : v' = v := by
  cases h <;> first | rfl | (simp [Ab.flat1, poison] at hf; done)
theorem VRel.flat {M : Mp} {v v' : Value} (h : VRel M v v') (hf : flatB v = true) : v' = v := by
  by_cases hv : ∃ cs, v = .agg cs
  · obtain ⟨cs, rfl⟩ := hv
    cases h
    rename_i c' h1 h2
    congr 1
    apply Array.ext h1.symm
    intro j a b
    simp only [flatB, List.all_eq_true] at hf
    exact (h2 j b a).flat1 (hf _ (by simp))
  · have : Ab.flat1 v = true := by
      unfold flatB at hf
      split at hf
      · exact absurd ⟨_, rfl⟩ hv
      · exact hf
    exact h.flat1 this

/-- What is asked of a key, and of those that are there. -/
def keysOk (P : Program) (kt : TypeId) (k : Value) (es : List MapEntry) : Prop :=
  WideMaps.KeyLaw P kt ∧ flatB k = true ∧ (∃ l, keyOf P kt k = some l) ∧ (∀ e ∈ es, ∃ l, keyOf P kt e.key = some l) ∧ (es.map (·.key)).Nodup

open Classical in
noncomputable def isK (k : Value) (e : MapEntry) : Bool := decide (e.key = k)
theorem isK_iff {k : Value} {e : MapEntry} : isK k e = true ↔ e.key = k := by simp [isK]
theorem isK_not {k : Value} {e : MapEntry} : (!isK k e) = true ↔ e.key ≠ k := by simp [isK]
noncomputable def findE (k : Value) (es : List MapEntry) : Option Value := (es.find? (isK k)).map (·.val)

theorem findE_none {k : Value} {es : List MapEntry} (h : ∀ e ∈ es, e.key ≠ k) : findE k es = none := by
  unfold findE
  rw [List.find?_eq_none.2 (fun e he hk => h e he (isK_iff.1 hk))]; rfl
theorem findE_some {k : Value} : ∀ {es : List MapEntry} {e : MapEntry}, (es.map (·.key)).Nodup → e ∈ es → e.key = k → findE k es = some e.val
  | [], _, _, h, _ => by cases h
  | x :: es, e, hn, he, hk => by
    simp only [List.map_cons, List.nodup_cons] at hn
    rcases List.mem_cons.1 he with rfl | he
    · simp [findE, isK_iff.2 hk]
    · have : x.key ≠ k := fun h => hn.1 (by rw [h, ← hk]; exact List.mem_map_of_mem he)
      have ih := findE_some hn.2 he hk
      unfold findE at ih ⊢
      rw [List.find?_cons_of_neg (fun hk => this (isK_iff.1 hk))]
      exact ih

def mapE (h : AHeap) : Value → Option (List MapEntry)
  | .map none => some []
  | .map (some i) => match h.obj i with
    | some (.other (.map es _)) => some es.toList
    | _ => none
  | _ => none

open Classical in
noncomputable def lookupR (P : Program) (h : AHeap) (t : TypeId) (m k : Value) (ok : Bool) : Option Value :=
  match P.underlying t with
  | some (.map kt e) => (tzero P e).bind fun z => (mapE h m).bind fun es => if keysOk P kt k es ∧ constOk z = true then
      some (match findE k es with
        | some v => if ok then .tuple #[v, .bool true] else v
        | none => if ok then .tuple #[z, .bool false] else z) else none
  | _ => none

theorem MapRel.mem {M : Mp} {es es' : Array MapEntry} (h : MapRel M es es') : es'.toList.map (·.key) = es.toList.map (·.key) := by
  apply List.ext_getElem
  · simp [h.1]
  · intro j a b
    simp at a b
    have := (h.2 j b a).1
    simp [this]

theorem MapRel.get {M : Mp} {es es' : Array MapEntry} (h : MapRel M es es') {j : Nat} {e' : MapEntry} (he : es'.toList[j]? = some e') : ∃ e, es.toList[j]? = some e ∧ e.key = e'.key ∧ e.born = e'.born ∧ VRel M e.val e'.val := by
  obtain ⟨hj, rfl⟩ := List.getElem?_eq_some_iff.1 he
  simp at hj
  have hj2 : j < es.size := by rw [h.1]; exact hj
  obtain ⟨h1, h2, h3⟩ := h.2 j hj2 hj
  exact ⟨es[j], by simp [hj2], by simpa using h1, by simpa using h2, by simpa using h3⟩

/-- What a search among the machine's entries comes to. -/
theorem find_sound {P : Program} {kt : TypeId} {M : Mp} {es es' : Array MapEntry} {k : Value} (w : World) (hm : MapRel M es es') (hk : keysOk P kt k es.toList) :
    ((Instr.findKey kt k es'.toList).run P w = .ok none w ∧ (∀ e ∈ es.toList, e.key ≠ k) ∧ findE k es.toList = none) ∨
    ∃ j e e', (Instr.findKey kt k es'.toList).run P w = .ok (some (j, e'.val)) w ∧ es.toList[j]? = some e ∧ es'.toList[j]? = some e' ∧ e.key = k ∧ e'.key = k ∧ VRel M e.val e'.val ∧ findE k es.toList = some e.val := by
  obtain ⟨law, hf, ⟨l, hl⟩, hall, hn⟩ := hk
  have hall' : ∀ e ∈ es'.toList, ∃ l, keyOf P kt e.key = some l := fun e he => by
    have : e.key ∈ es'.toList.map (·.key) := List.mem_map_of_mem he
    rw [hm.mem] at this
    obtain ⟨x, hx, hxe⟩ := List.mem_map.1 this
    rw [← hxe]; exact hall x hx
  rcases law.find w hl es'.toList hall' with ⟨h1, h2⟩ | ⟨j, e', h1, h2, h3⟩
  · left
    have h4 : ∀ e ∈ es.toList, e.key ≠ k := fun e he hek => by
      have : e.key ∈ es.toList.map (·.key) := List.mem_map_of_mem he
      rw [← hm.mem] at this
      obtain ⟨x, hx, hxe⟩ := List.mem_map.1 this
      exact h2 x hx (hxe.trans hek)
    exact ⟨h1, h4, findE_none h4⟩
  · right
    obtain ⟨e, q1, q2, q3, q4⟩ := hm.get h2
    exact ⟨j, e, e', h1, q1, h2, q2.trans h3, h3, q4, findE_some hn (List.mem_of_getElem? q1) (q2.trans h3)⟩

theorem mapE_sound {P : Program} {M : Mp} {h : AHeap} {w : World} (r : Rel M h w) {m m' : Value} (hx : VRel M m m') {es : List MapEntry} (he : mapE h m = some es) :
    (m = .map none ∧ m' = .map none ∧ es = []) ∨ ∃ i b clock a a', m = .map (some i) ∧ m' = .map (some b.blk) ∧ M i = some b ∧ h.obj i = some (.other (.map a clock)) ∧ es = a.toList ∧ w.heap[b.blk]? = some (.map a' clock) ∧ MapRel M a a' := by
  cases hx <;> simp only [mapE, poison] at he <;> first | (cases he; done) | skip
  · obtain rfl := Option.some.inj he
    exact .inl ⟨rfl, rfl, rfl⟩
  · rename_i i b hM
    split at he
    · rename_i a clock ho
      obtain rfl := Option.some.inj he
      obtain ⟨a', h1, h2⟩ := r.live i _ b ho hM
      exact .inr ⟨i, b, clock, a, a', rfl, rfl, hM, ho, rfl, h1, h2⟩
    · cases he

theorem lookupR_sound {P : Program} {M : Mp} {h : AHeap} {w : World} {t : TypeId} {m m' k k' v : Value} {ok : Bool} (r : Rel M h w) (hm : VRel M m m') (hk : VRel M k k') (hs : lookupR P h t m k ok = some v) :
    ∃ v', (Instr.lookup t m' k' ok).run P w = .ok v' w ∧ VRel M v v' := by
  unfold lookupR at hs
  split at hs
  · rename_i kt e ht
    simp only [Option.bind_eq_some_iff] at hs
    obtain ⟨z, hz, es, hes, hs⟩ := hs
    split at hs
    · rename_i hc
      obtain ⟨hko, hcz⟩ := hc
      have hkk := (hk.flat hko.2.1).symm
      subst hkk
      obtain ⟨law, hf, ⟨l, hl⟩, hall, hn⟩ := id hko
      have hzz := run_tzero (P := P) w hz
      have hfin : ∀ {u u' : Value} {b : Bool}, VRel M u u' → VRel M (if ok then .tuple #[u, .bool b] else u) (if ok then .tuple #[u', .bool b] else u') := fun {u u' b} hu => by
        cases ok
        · exact hu
        · exact VRels.tuple (by have := (VRels.single hu).append (VRels.single (VRel.bool (M := M) b)); simpa using this)
      rcases mapE_sound (P := P) r hm hes with ⟨rfl, rfl, rfl⟩ | ⟨i, b, clock, a, a', rfl, rfl, hM, ho, rfl, hw, hmr⟩
      · refine ⟨if ok then .tuple #[z, .bool false] else z, ?_, ?_⟩
        · rcases find_sound (P := P) (M := M) (es := #[]) (es' := #[]) w ⟨rfl, fun j h => by simp at h⟩ hko with ⟨q1, _⟩ | ⟨j, e, e', _, q2, _⟩
          · simp only [Instr.lookup, Sem.run_bind, run_underlying ht, Result.andThen_ok, Sem.run_pure, law.check w _ hl, q1, hzz, Sem.run_map]
          · simp at q2
        · obtain rfl := Option.some.inj hs
          simp only [findE, List.find?_nil, Option.map_none]
          exact hfin (VRel.const M hcz)
      · rcases find_sound (P := P) w hmr hko with ⟨q1, _, q3⟩ | ⟨j, e, e', q1, q2, q3, q4, q5, q6, q7⟩
        · rw [q3] at hs
          obtain rfl := Option.some.inj hs
          refine ⟨if ok then .tuple #[z, .bool false] else z, ?_, hfin (VRel.const M hcz)⟩
          simp only [Instr.lookup, Sem.run_bind, run_underlying ht, Result.andThen_ok, Sem.run_pure, MapKept.run_getObj_map hw, law.check w _ hl, q1, hzz, Sem.run_map]
        · rw [q7] at hs
          obtain rfl := Option.some.inj hs
          refine ⟨if ok then .tuple #[e'.val, .bool true] else e'.val, ?_, hfin q6⟩
          simp only [Instr.lookup, Sem.run_bind, run_underlying ht, Result.andThen_ok, Sem.run_pure, MapKept.run_getObj_map hw, law.check w _ hl, q1, hzz, Sem.run_map]
    · cases hs
  · cases hs

/-! ### Maps that turn -/
theorem Rel.setOther {M : Mp} {h : AHeap} {w : World} (r : Rel M h w) {i : Nat} {o o' : Obj} {b : Blk} {co : Obj} (ho : h.obj i = some (.other o)) (hM : M i = some b)
    (hn : ObjRel M b { w with heap := w.heap.setIfInBounds b.blk co } (.other o')) :
    Rel M (h.set i (.other o')) { w with heap := w.heap.setIfInBounds b.blk co } ∧ Post M h w M (h.set i (.other o')) { w with heap := w.heap.setIfInBounds b.blk co } := by
  have hoth : ∀ k, k ≠ b.blk → (w.heap.setIfInBounds b.blk co)[k]? = w.heap[k]? := fun k hk => by
    rw [Array.getElem?_setIfInBounds_ne (fun e => hk e.symm)]
  have hsz : (w.heap.setIfInBounds b.blk co).size = w.heap.size := by simp
  have hnew : h.base ≤ i := by
    rcases Nat.lt_or_ge i h.base with hi | hi
    · obtain ⟨c', e', sz', ti', he⟩ := r.oldro i _ hi ho
      cases he
    · exact hi
  have hsome : ∀ j, ((h.set i (.other o')).obj j).isSome ↔ (h.obj j).isSome := fun j => by
    simp only [AHeap.set]; split
    · rename_i e; subst e; simp [ho]
    · rfl
  constructor
  · constructor
    · intro j o2 b' hj hMj
      simp only [AHeap.set] at hj
      by_cases ej : j = i
      · subst ej
        rw [if_pos rfl] at hj
        obtain rfl := Option.some.inj hj
        rw [hM] at hMj; obtain rfl := Option.some.inj hMj
        exact hn
      · rw [if_neg ej] at hj
        refine (r.live j o2 b' hj hMj).mono .rfl (hoth _ ?_)
        intro e'
        exact ej (r.inj j i b' b (by simp [hj]) (by simp [ho]) hMj hM e')
    · exact fun j k b1 b2 hj hk => r.inj j k b1 b2 ((hsome j).1 hj) ((hsome k).1 hk)
    · exact r.fresh
    · exact r.glob
    · exact fun j b1 hj => by show b1.blk < (w.heap.setIfInBounds b.blk co).size; rw [hsz]; exact r.inb j b1 hj
    · exact r.ble
    · intro j hj
      have hb := r.bnd j hj
      simp only [AHeap.set]
      rw [if_neg (by rintro rfl; rw [ho] at hb; cases hb)]
      exact hb
    · intro j o2 hj hoj
      simp only [AHeap.set] at hoj
      have hjb : j < h.base := hj
      rw [if_neg (by omega)] at hoj
      exact r.oldro j o2 hjb hoj
    · exact r.nb
  · constructor
    · exact .rfl
    · exact fun _ _ h => h
    · exact Nat.le_refl _
    · rfl
    · show w.heap.size ≤ (w.heap.setIfInBounds b.blk co).size; rw [hsz]; exact Nat.le_refl _
    · rfl
    · rfl
    · rfl
    · exact fun k hk hu => hoth k (fun e' => hu i b (by simp [ho]) hM e'.symm)
    · exact fun k hk => hoth k (by have := r.nb i b hnew hM; omega)
    · exact fun j b1 hj hMj => .inr ⟨j, b1, (hsome j).1 hj, hMj, rfl⟩

open Classical in
/-- The entries behind a laying in. -/
noncomputable def updE (es : Array MapEntry) (clock : Nat) (k x : Value) : Obj :=
  match es.toList.findIdx? (isK k) with
  | some j => .map (es.modify j fun e => { e with val := x }) clock
  | none => .map (es.push ⟨k, x, clock⟩) (clock + 1)

open Classical in
noncomputable def mapUpdW (P : Program) (h : AHeap) (t : TypeId) (m k x : Value) : Option AHeap :=
  match P.underlying t, m with
  | some (.map kt _), .map (some i) => match h.obj i with
    | some (.other (.map es clock)) => if keysOk P kt k es.toList then some (h.set i (.other (updE es clock k x))) else none
    | _ => none
  | _, _ => none

theorem findIdx_unique {k : Value} {p : MapEntry → Bool} (hp : ∀ e, p e = true ↔ e.key = k) : ∀ {es : List MapEntry} {j : Nat} {e : MapEntry}, (es.map (·.key)).Nodup → es[j]? = some e → e.key = k → es.findIdx? p = some j
  | [], j, e, _, h, _ => by simp at h
  | x :: es, 0, e, hn, h, hk => by
    simp at h; subst h
    rw [List.findIdx?_cons, (hp x).2 hk]; rfl
  | x :: es, j + 1, e, hn, h, hk => by
    simp only [List.map_cons, List.nodup_cons] at hn
    simp only [List.getElem?_cons_succ] at h
    have hx : x.key ≠ k := fun hx => hn.1 (by rw [hx, ← hk]; exact List.mem_map_of_mem (List.mem_of_getElem? h))
    have hpx : p x = false := by
      cases hq : p x
      · rfl
      · exact absurd ((hp x).1 hq) hx
    rw [List.findIdx?_cons, hpx, findIdx_unique hp hn.2 h hk]; rfl

theorem MapRel.push {M : Mp} {es es' : Array MapEntry} (h : MapRel M es es') {k x x' : Value} {c : Nat} (hx : VRel M x x') : MapRel M (es.push ⟨k, x, c⟩) (es'.push ⟨k, x', c⟩) := by
  refine ⟨by simp [h.1], fun j a b => ?_⟩
  simp only [Array.getElem_push, h.1]
  simp at a b
  split
  · rename_i hj; exact h.2 j (by rw [h.1]; exact hj) hj
  · exact ⟨rfl, rfl, hx⟩
theorem MapRel.modify {M : Mp} {es es' : Array MapEntry} (h : MapRel M es es') {x x' : Value} (i : Nat) (hx : VRel M x x') : MapRel M (es.modify i fun e => { e with val := x }) (es'.modify i fun e => { e with val := x' }) := by
  refine ⟨by simp [h.1], fun j a b => ?_⟩
  simp at a b
  simp only [Array.getElem_modify]
  obtain ⟨q1, q2, q3⟩ := h.2 j a b
  split
  · exact ⟨q1, q2, hx⟩
  · exact ⟨q1, q2, q3⟩

theorem mapUpdW_sound {P : Program} {M : Mp} {h h' : AHeap} {w : World} {t : TypeId} {m m' k k' x x' : Value} (r : Rel M h w) (hm : VRel M m m') (hk : VRel M k k') (hx : VRel M x x') (hs : mapUpdW P h t m k x = some h') :
    ∃ w', (Instr.mapUpdate t m' k' x').run P w = .ok () w' ∧ Rel M h' w' ∧ Post M h w M h' w' := by
  unfold mapUpdW at hs
  split at hs
  · rename_i kt e i ht
    split at hs
    · rename_i es clock ho
      split at hs
      · rename_i hko
        obtain rfl := Option.some.inj hs
        have hkk := (hk.flat hko.2.1).symm
        subst hkk
        obtain ⟨law, hf, ⟨l, hl⟩, hall, hn⟩ := id hko
        cases hm
        rename_i b hM
        obtain ⟨es', hw, hmr⟩ := r.live i _ b ho hM
        have hlt : b.blk < w.heap.size := r.inb i b hM
        rcases find_sound (P := P) w hmr hko with ⟨q1, q2, q3⟩ | ⟨j, e, e', q1, q2, q3, q4, q5, q6, q7⟩
        · have hu : updE es clock k x = .map (es.push ⟨k, x, clock⟩) (clock + 1) := by
            unfold updE
            rw [List.findIdx?_eq_none_iff.2 (fun e he => by cases hq : isK k e; rfl; exact absurd (isK_iff.1 hq) (q2 e he))]
          rw [hu]
          refine ⟨_, ?_, r.setOther (co := .map (es'.push ⟨k, x', clock⟩) (clock + 1)) ho hM ⟨_, by simp [Array.getElem?_setIfInBounds, hlt], hmr.push hx⟩⟩
          simp only [Instr.mapUpdate, Sem.run_bind, run_underlying ht, Result.andThen_ok, MapKept.run_getObj_map hw, law.check w _ hl, q1, MapKept.run_setObj_map _ hw]
        · have hu : updE es clock k x = .map (es.modify j fun e => { e with val := x }) clock := by
            unfold updE
            rw [findIdx_unique (k := k) (fun e => isK_iff) hn q2 q4]
          rw [hu]
          have hkey : (((es'[j]?).map (·.key)).getD k) = k := by
            rw [← Array.getElem?_toList, q3]; simpa using q5
          have hmod : (es'.modify j fun e => { e with key := k, val := x' }) = es'.modify j fun e => { e with val := x' } := by
            apply Array.ext'
            simp only [Array.toList_modify]
            apply List.ext_getElem?
            intro n
            simp only [List.getElem?_modify]
            by_cases hnj : j = n
            · subst hnj
              rw [q3]; simp [q5]
            · simp [hnj]
          refine ⟨_, ?_, r.setOther (co := .map (es'.modify j fun e => { e with val := x' }) clock) ho hM ⟨_, by simp [Array.getElem?_setIfInBounds, hlt], hmr.modify j hx⟩⟩
          simp only [Instr.mapUpdate, Sem.run_bind, run_underlying ht, Result.andThen_ok, MapKept.run_getObj_map hw, law.check w _ hl, q1, hkey, law.stays w hl, MapKept.run_setObj_map _ hw, hmod]
      · cases hs
    · cases hs
  · cases hs

open Classical in
noncomputable def delW (P : Program) (h : AHeap) (t : TypeId) (m k : Value) : Option AHeap :=
  match P.underlying t, m with
  | some (.map kt _), .map (some i) => match h.obj i with
    | some (.other (.map es clock)) => if keysOk P kt k es.toList then some (h.set i (.other (.map (es.filter fun e => !isK k e) clock))) else none
    | _ => none
  | _, _ => none

theorem filter_erase {k : Value} {p : MapEntry → Bool} (hp : ∀ e, p e = true ↔ e.key ≠ k) : ∀ {es : List MapEntry} {j : Nat} {e : MapEntry}, (es.map (·.key)).Nodup → es[j]? = some e → e.key = k → es.filter p = es.eraseIdx j
  | [], j, e, _, h, _ => by simp at h
  | x :: es, 0, e, hn, h, hk => by
    simp at h; subst h
    simp only [List.map_cons, List.nodup_cons] at hn
    have hpx : p x = false := by
      cases hq : p x
      · rfl
      · exact absurd hk ((hp x).1 hq)
    rw [List.filter_cons, hpx]
    simp only [Bool.false_eq_true, if_false, List.eraseIdx_cons_zero]
    rw [List.filter_eq_self]
    intro y hy
    exact (hp y).2 fun hy2 => hn.1 (by rw [hk, ← hy2]; exact List.mem_map_of_mem hy)
  | x :: es, j + 1, e, hn, h, hk => by
    simp only [List.map_cons, List.nodup_cons] at hn
    simp only [List.getElem?_cons_succ] at h
    have hx : x.key ≠ k := fun hx => hn.1 (by rw [hx, ← hk]; exact List.mem_map_of_mem (List.mem_of_getElem? h))
    rw [List.filter_cons, (hp x).2 hx]
    simp only [if_true, List.eraseIdx_cons_succ]
    rw [filter_erase hp hn.2 h hk]

theorem MapRel.erase {M : Mp} {es es' : Array MapEntry} (h : MapRel M es es') (j : Nat) : MapRel M (es.eraseIdxIfInBounds j) (es'.eraseIdxIfInBounds j) := by
  have e1 : ∀ (a : Array MapEntry), (a.eraseIdxIfInBounds j).toList = a.toList.eraseIdx j := fun a => by
    rw [Array.eraseIdxIfInBounds]
    split
    · simp
    · rename_i hj
      rw [List.eraseIdx_of_length_le (by simpa using hj)]
  have hsz : (es.eraseIdxIfInBounds j).size = (es'.eraseIdxIfInBounds j).size := by
    rw [← Array.length_toList, ← Array.length_toList, e1, e1, List.length_eraseIdx, List.length_eraseIdx]
    simp [h.1]
  refine ⟨hsz, fun n a b => ?_⟩
  have g1 : ∀ (x : Array MapEntry) (hx : n < (x.eraseIdxIfInBounds j).size), some ((x.eraseIdxIfInBounds j)[n]) = if n < j then x[n]? else x[n + 1]? := fun x hx => by
    rw [← Array.getElem?_eq_getElem, ← Array.getElem?_toList, e1, List.getElem?_eraseIdx]
    simp
  have ha := g1 es a
  have hb := g1 es' b
  split at ha
  · rename_i hn
    rw [if_pos hn] at hb
    obtain ⟨k1, e2⟩ := Array.getElem?_eq_some_iff.1 ha.symm
    obtain ⟨k3, e4⟩ := Array.getElem?_eq_some_iff.1 hb.symm
    rw [← e2, ← e4]; exact h.2 n k1 k3
  · rename_i hn
    rw [if_neg hn] at hb
    obtain ⟨k1, e2⟩ := Array.getElem?_eq_some_iff.1 ha.symm
    obtain ⟨k3, e4⟩ := Array.getElem?_eq_some_iff.1 hb.symm
    rw [← e2, ← e4]; exact h.2 (n + 1) k1 k3

theorem delW_sound {P : Program} {M : Mp} {h h' : AHeap} {w : World} {t ty : TypeId} {ts : Array TypeId} {m m' k k' : Value} (r : Rel M h w) (hm : VRel M m m') (hk : VRel M k k') (ht0 : ts[0]? = some t) (hs : delW P h t m k = some h') :
    ∃ w', (Builtin.delete_ ts ty #[m', k']).run P w = .ok (.tuple #[]) w' ∧ Rel M h' w' ∧ Post M h w M h' w' := by
  unfold delW at hs
  split at hs
  · rename_i kt e i ht
    split at hs
    · rename_i es clock ho
      split at hs
      · rename_i hko
        obtain rfl := Option.some.inj hs
        have hkk := (hk.flat hko.2.1).symm
        subst hkk
        obtain ⟨law, hf, ⟨l, hl⟩, hall, hn⟩ := id hko
        cases hm
        rename_i b hM
        obtain ⟨es', hw, hmr⟩ := r.live i _ b ho hM
        have hlt : b.blk < w.heap.size := r.inb i b hM
        have e0 : (#[Value.map (some b.blk), k] : Array Value)[0]? = some (.map (some b.blk)) := rfl
        have e1 : (#[Value.map (some b.blk), k] : Array Value)[1]? = some k := rfl
        rcases find_sound (P := P) w hmr hko with ⟨q1, q2, q3⟩ | ⟨j, e, e', q1, q2, q3, q4, q5, q6, q7⟩
        · have hu : (es.filter fun e => !isK k e) = es := by
            rw [Array.filter_eq_self]; intro e he; exact isK_not.2 (q2 e (by simpa using he))
          rw [hu]
          refine ⟨_, ?_, r.setOther (co := .map es' clock) ho hM ⟨_, by simp [Array.getElem?_setIfInBounds, hlt], hmr⟩⟩
          simp only [Builtin.delete_, ht0, e0, e1, Sem.run_bind, run_underlying ht, Result.andThen_ok, MapKept.run_getObj_map hw, law.check w _ hl, q1, MapKept.run_setObj_map _ hw, Sem.run_pure]
        · have hu : (es.filter fun e => !isK k e) = es.eraseIdxIfInBounds j := by
            apply Array.ext'
            rw [Array.toList_filter, filter_erase (k := k) (fun e => isK_not) hn q2 q4, Array.eraseIdxIfInBounds]
            split
            · simp
            · rename_i hj
              rw [List.eraseIdx_of_length_le (by simpa using hj)]
          rw [hu]
          refine ⟨_, ?_, r.setOther (co := .map (es'.eraseIdxIfInBounds j) clock) ho hM ⟨_, by simp [Array.getElem?_setIfInBounds, hlt], hmr.erase j⟩⟩
          simp only [Builtin.delete_, ht0, e0, e1, Sem.run_bind, run_underlying ht, Result.andThen_ok, MapKept.run_getObj_map hw, law.check w _ hl, q1, MapKept.run_setObj_map _ hw, Sem.run_pure]
      · cases hs
    · cases hs
  · cases hs

def clearW (P : Program) (h : AHeap) (t : TypeId) (m : Value) : Option AHeap :=
  match P.underlying t, m with
  | some (.map _ _), .map (some i) => match h.obj i with
    | some (.other (.map es clock)) => some (h.set i (.other (.map #[] clock)))
    | _ => none
  | _, _ => none

theorem clearW_sound {P : Program} {M : Mp} {h h' : AHeap} {w : World} {t ty : TypeId} {ts : Array TypeId} {m m' : Value} (r : Rel M h w) (hm : VRel M m m') (ht0 : ts[0]? = some t) (hs : clearW P h t m = some h') :
    ∃ w', (Builtin.clear_ ts ty #[m']).run P w = .ok (.tuple #[]) w' ∧ Rel M h' w' ∧ Post M h w M h' w' := by
  unfold clearW at hs
  split at hs
  · rename_i kt e i ht
    split at hs
    · rename_i es clock ho
      obtain rfl := Option.some.inj hs
      cases hm
      rename_i b hM
      obtain ⟨es', hw, hmr⟩ := r.live i _ b ho hM
      have hlt : b.blk < w.heap.size := r.inb i b hM
      have e0 : (#[Value.map (some b.blk)] : Array Value)[0]? = some (.map (some b.blk)) := rfl
      refine ⟨_, ?_, r.setOther (co := .map #[] clock) ho hM ⟨_, by simp [Array.getElem?_setIfInBounds, hlt], ⟨rfl, fun j h => by simp at h⟩⟩⟩
      simp only [Builtin.clear_, ht0, e0, Sem.run_bind, run_underlying ht, Result.andThen_ok, MapKept.run_getObj_map hw, MapKept.run_setObj_map _ hw, Sem.run_pure]
    · cases hs
  · cases hs

/-! ### Going through a map -/
def rangeW (P : Program) (h : AHeap) (t : TypeId) (x : Value) : Option (Value × AHeap) :=
  match P.underlying t, x with
  | some (.map _ _), .map (some i) => match h.obj i with
    | some (.other (.map es clock)) => some (.pointer (some ⟨h.next, 0, none⟩), h.push (.other (.mapIter (some i) clock #[] clock)))
    | _ => none
  | _, _ => none

theorem rangeW_sound {P : Program} {M : Mp} {h h' : AHeap} {w : World} {t : TypeId} {x x' v : Value} (r : Rel M h w) (hx : VRel M x x') (hs : rangeW P h t x = some (v, h')) :
    ∃ v' w' M', (Instr.range t x').run P w = .ok v' w' ∧ VRel M' v v' ∧ Rel M' h' w' ∧ Post M h w M' h' w' := by
  unfold rangeW at hs
  split at hs
  · rename_i kt e i ht
    split at hs
    · rename_i es clock ho
      simp only [Option.some.injEq, Prod.mk.injEq] at hs
      obtain ⟨rfl, rfl⟩ := hs
      cases hx
      rename_i b hM
      obtain ⟨es', hw, hmr⟩ := r.live i _ b ho hM
      have hn : M h.next = none := r.fresh _ (Nat.le_refl _)
      have hle := upd_le (b := ⟨w.heap.size, 0, 0, 1, false⟩) hn
      obtain ⟨r2, p2⟩ := r.alloc (o := .other (.mapIter (some i) clock #[] clock)) (co := .mapIter (some b.blk) clock #[] clock) (sz := 0) (esz := 1) (op := false)
        ⟨rfl, some b.blk, by simp, .map i b (hle _ _ hM)⟩
      refine ⟨.pointer (some ⟨w.heap.size, 0, none⟩), _, _, ?_, ?_, r2, p2⟩
      · simp [Instr.range, run_underlying ht, MapKept.run_getObj_map hw, Result.andThen, newObj, Sem.run]
      · exact .ptr h.next 0 ⟨w.heap.size, 0, 0, 1, false⟩ (by simp [upd])
    · cases hs
  · cases hs

def entryR (h : AHeap) (x : Value) : Option Value :=
  match x with
  | .pointer (some ⟨i, 0, none⟩) => match h.obj i with
    | some (.other (.mapIter (some m) _ seen stepped)) => match seen.back?, h.obj m with
      | some stamp, some (.other (.map es clock)) => if clock = stepped then match es.toList.find? (·.born == stamp) with
          | some e => if flatB e.key = true then some (.tuple #[e.key, e.val]) else none
          | none => none
        else none
      | _, _ => none
    | _ => none
  | _ => none

theorem VRel.refl_flat1 {M : Mp} {v : Value} (h : Ab.flat1 v = true) : VRel M v v := by
  cases v <;> simp [Ab.flat1] at h
  · exact .bool _
  · exact .int _ _
  · exact .string _
theorem VRel.refl_flat {M : Mp} {v : Value} (h : flatB v = true) : VRel M v v := by
  by_cases hv : ∃ cs, v = .agg cs
  · obtain ⟨cs, rfl⟩ := hv
    refine .agg _ _ rfl fun j a b => ?_
    simp only [flatB, List.all_eq_true] at h
    exact VRel.refl_flat1 (h _ (by simp))
  · refine VRel.refl_flat1 ?_
    unfold flatB at h
    split at h
    · exact absurd ⟨_, rfl⟩ hv
    · exact h

theorem MapRel.find {M : Mp} {es es' : Array MapEntry} (h : MapRel M es es') {s : Nat} {e : MapEntry} (he : es.toList.find? (·.born == s) = some e) : ∃ e', es'.toList.find? (·.born == s) = some e' ∧ e'.key = e.key ∧ VRel M e.val e'.val := by
  have key : ∀ (l l' : List MapEntry), l.length = l'.length → (∀ j (a : j < l.length) (b : j < l'.length), l[j].key = l'[j].key ∧ l[j].born = l'[j].born ∧ VRel M l[j].val l'[j].val) → l.find? (·.born == s) = some e → ∃ e', l'.find? (·.born == s) = some e' ∧ e'.key = e.key ∧ VRel M e.val e'.val := by
    intro l
    induction l with
    | nil => intro l' _ _ h; simp at h
    | cons x l ih =>
      intro l' hl hr hf
      cases l' with
      | nil => simp at hl
      | cons x' l' =>
        obtain ⟨q1, q2, q3⟩ := hr 0 (by simp) (by simp)
        simp only [List.getElem_cons_zero] at q1 q2 q3
        rw [List.find?_cons] at hf ⊢
        rw [← q2]
        cases hb : (x.born == s)
        · rw [hb] at hf
          exact ih l' (by simpa using hl) (fun j a b => hr (j + 1) (by simpa using a) (by simpa using b)) hf
        · rw [hb] at hf
          obtain rfl := Option.some.inj hf
          exact ⟨x', rfl, q1.symm, q3⟩
  exact key es.toList es'.toList (by simp [h.1]) (fun j a b => by
    simp at a b
    simpa using h.2 j a b) he

theorem run_getObj_iter {P : Program} {w : World} {r : Nat} {m : Option Nat} {a c : Nat} {s : Array Nat} (hb : w.heap[r]? = some (.mapIter m a s c)) : (getObj r).run P w = .ok (.mapIter m a s c) w := by
  simp [getObj, Sem.run, hb]

theorem iter_sound {M : Mp} {h : AHeap} {w : World} (r : Rel M h w) {i m since stepped : Nat} {seen : Array Nat} {b : Blk} (hM : M i = some b) (ho : h.obj i = some (.other (.mapIter (some m) since seen stepped))) :
    ∃ b2, b.base = 0 ∧ M m = some b2 ∧ w.heap[b.blk]? = some (.mapIter (some b2.blk) since seen stepped) := by
  obtain ⟨h0, m', h1, h2⟩ := r.live i _ b ho hM
  cases h2
  rename_i b2 hM2
  exact ⟨b2, h0, hM2, h1⟩

theorem entryR_sound {P : Program} {M : Mp} {h : AHeap} {w : World} {x x' v : Value} (r : Rel M h w) (hx : VRel M x x') (hs : entryR h x = some v) :
    ∃ v', (Instr.entry x').run P w = .ok v' w ∧ VRel M v v' := by
  unfold entryR at hs
  split at hs
  · rename_i i
    split at hs
    · rename_i m since seen stepped ho
      split at hs
      · rename_i stamp es clock hst hm
        split at hs
        · rename_i hcl
          split at hs
          · rename_i e hf
            split at hs
            · rename_i hfl
              obtain rfl := Option.some.inj hs
              cases hx
              rename_i b hM
              obtain ⟨b2, h0, hM2, hw⟩ := iter_sound r hM ho
              obtain ⟨es', hw2, hmr⟩ := r.live m _ b2 hm hM2
              obtain ⟨e', h1, h2, h3⟩ := hmr.find hf
              subst hcl
              refine ⟨.tuple #[e'.key, e'.val], ?_, ?_⟩
              · rw [h0]
                have hf' : es'.find? (·.born == stamp) = some e' := by rw [← Array.find?_toList]; exact h1
                simp only [Instr.entry, Nat.zero_add, Sem.run_bind, run_getObj_iter hw, Result.andThen_ok, hst, MapKept.run_getObj_map hw2, bne_self_eq_false, Bool.false_eq_true, if_false, hf', Sem.run_pure]
              · have := (VRels.single (h2.symm ▸ VRel.refl_flat (M := M) hfl : VRel M e.key e'.key)).append (VRels.single h3)
                exact VRels.tuple (by simpa using this)
            · cases hs
          · cases hs
        · cases hs
      · cases hs
    · cases hs
  · cases hs

/-- A step, whichever entry comes. -/
def nextA (h : AHeap) (x : Value) (K : Value → AHeap → Prop) : Prop :=
  ∃ (i m since : Nat) (seen : Array Nat) (stepped : Nat) (es : Array MapEntry) (clock : Nat), x = .pointer (some ⟨i, 0, none⟩) ∧ h.obj i = some (.other (.mapIter (some m) since seen stepped)) ∧ h.obj m = some (.other (.map es clock)) ∧
    (∀ e ∈ es.toList, e.born < since ∧ flatB e.key = true) ∧ since ≤ stepped ∧ ((∀ e ∈ es.toList, e.born ∈ seen) → K (.tuple #[.bool false]) h) ∧
    ∀ e ∈ es.toList, e.born ∉ seen → K (.tuple #[.bool true, e.key, e.val]) (h.set i (.other (.mapIter (some m) since (seen.push e.born) clock)))

theorem nextA_mono {h : AHeap} {x : Value} {K K' : Value → AHeap → Prop} (k : nextA h x K) (hk : ∀ v h, K v h → K' v h) : nextA h x K' := by
  obtain ⟨i, m, since, seen, stepped, es, clock, q1, q2, q3, q4, q5, q6, q7⟩ := k
  exact ⟨i, m, since, seen, stepped, es, clock, q1, q2, q3, q4, q5, fun q => hk _ _ (q6 q), fun e he q => hk _ _ (q7 e he q)⟩

theorem run_next {P : Program} {w : World} {r bm since last clock : Nat} {seen : Array Nat} {es : Array MapEntry} {ty : TypeId} (hi : w.heap[r]? = some (.mapIter (some bm) since seen last)) (hb : w.heap[bm]? = some (.map es clock))
    (hold : ∀ x ∈ es.toList, x.born < since) (hsc : since ≤ last) :
    ((∀ e ∈ es.toList, e.born ∈ seen) ∧ (Instr.next (.pointer (some ⟨r, 0, none⟩)) false ty).run P w = .ok (.tuple #[.bool false]) w) ∨
    ∃ j, ∃ hj : j < es.size, es[j].born ∉ seen ∧ ∃ w1 : World, w1.heap = w.heap ∧ w1.os = w.os ∧ w1.tape = w.tape ∧ w1.output = w.output ∧
      (Instr.next (.pointer (some ⟨r, 0, none⟩)) false ty).run P w = .ok (.tuple #[.bool true, es[j].key, es[j].val]) ({ w1 with heap := w.heap.setIfInBounds r (.mapIter (some bm) since (seen.push es[j].born) clock) } : World) := by
  simp only [Instr.next, Sem.run_bind, run_getObj_iter hi, MapKept.run_getObj_map hb, Result.andThen_ok, next_test_false seen es since last hold hsc, Bool.false_eq_true, if_false]
  have hmem : ∀ x ∈ (Array.filter (fun e => !seen.contains e.born) es).toList, x.born < since := fun x hx => hold x (by simp at hx ⊢; exact hx.1)
  have hin : ∀ x ∈ Array.filter (fun e => !seen.contains e.born) es, x ∈ es ∧ x.born ∉ seen := fun x hx => by simpa using hx
  have hout : ∀ x ∈ es, x.born ∉ seen → x ∈ Array.filter (fun e => !seen.contains e.born) es := fun x hx h => by simpa using ⟨hx, h⟩
  generalize Array.filter (fun e => !seen.contains e.born) es = L at hmem hin hout ⊢
  have e1 : L.filter (fun x => decide (x.born < since)) = L := Array.filter_eq_self.2 (fun x hx => by simpa using hmem x (by simpa using hx))
  have e2 : L.filter (fun x => decide (x.born ≥ since)) = #[] := by
    rw [Array.filter_eq_empty_iff]
    intro x hx
    have := hmem x (by simpa using hx)
    simp
    omega
  simp only [e1, e2, Array.append_empty]
  by_cases h0 : L.size = 0
  · left
    have : L = #[] := Array.eq_empty_of_size_eq_zero h0
    subst this
    refine ⟨fun e he => ?_, by simp [choose, Sem.run, Question.forced]⟩
    by_cases hs : e.born ∈ seen
    · exact hs
    · have := hout e (by simpa using he) hs
      simp at this
  · right
    have hne : L.isEmpty = false := by simp [Array.isEmpty, h0]
    simp only [hne, Bool.false_eq_true, if_false, Array.empty_append, Array.size_map]
    have hch : ∃ (j : Nat) (w1 : World), j < L.size ∧ w1.heap = w.heap ∧ w1.os = w.os ∧ w1.tape = w.tape ∧ w1.output = w.output ∧ (choose (Question.mapNext L.size)).run P w = .ok j w1 := by
      by_cases hf : L.size ≤ 1
      · exact ⟨0, w, by omega, rfl, rfl, rfl, rfl, by simp [choose, Sem.run, Question.forced, hf]⟩
      · exact ⟨_, { w with drawn := w.drawn + 1 }, Nat.mod_lt _ (by omega), rfl, rfl, rfl, rfl, by
          simp only [choose, Sem.run, Question.forced, decide_eq_true_eq, hf, if_false, Question.cut]; rfl⟩
    obtain ⟨j, w1, hj, q1, q2, q3, q4, hrun⟩ := hch
    obtain ⟨hm1, hm2⟩ := hin L[j] (by simp)
    obtain ⟨n, hn, he⟩ := Array.mem_iff_getElem.1 hm1
    refine ⟨n, hn, by rw [he]; exact hm2, w1, q1, q2, q3, q4, ?_⟩
    have hset : ∀ (o' : Obj), (setObj r o').run P w1 = .ok () { w1 with heap := w1.heap.setIfInBounds r o' } := fun o' => by
      simp only [setObj, Sem.run, q1, hi]
    rw [he]
    simp only [hrun, Array.getElem?_map, Array.getElem?_eq_getElem hj, Option.map_some, Sem.run_bind, hset, Result.andThen, q1, Sem.run_pure]

/-! ### Structs, field by field -/
/-- Two values of such a type are compared as data are. -/
structure EqLaw (P : Program) (t : TypeId) : Prop where
  guard : P.eqGuardType P.depth t = false
  eq : ∀ (w : World) {x y : Value} {lx ly : Lit}, keyOf P t x = some lx → keyOf P t y = some ly → ∃ r : Bool, (Op.equalIn 10000 t x y).run P w = .ok r w ∧ (r = true ↔ x = y)

theorem EqLaw.deep {P : Program} (hl : laidOutB P = true) {m : Nat} (hm : m + 1 ≤ 10000) {k : TypeId} (hrow : k < P.types.size) (hk : P.keyTypeAt m k = true) (hwide : (match P.underlying k with | some (.array _ _) | some (.struct _) => true | _ => false) = true)
    (hg : P.eqGuardType P.depth k = false) : EqLaw P k where
  guard := hg
  eq := fun w {x y lx ly} hx hy => by
    obtain ⟨r, hr, h2⟩ := run_equal_deep w (m := m) (by omega) hk hwide hx hy
    refine ⟨r, hr, h2.trans ⟨fun e => ?_, fun e => ?_⟩⟩
    · subst e; exact (deep_law_laid hl hm hrow hk hwide).inj hx hy
    · subst e; rw [hx] at hy; exact Option.some.inj hy

open Classical in
noncomputable def aggEqR (P : Program) (op : BinOp) (t : TypeId) (x y : Value) : Option Value :=
  if EqLaw P t ∧ flatB x = true ∧ flatB y = true ∧ (∃ cs, x = .agg cs) ∧ (∃ cs, y = .agg cs) ∧ (∃ l, keyOf P t x = some l) ∧ (∃ l, keyOf P t y = some l) then
    match op with
    | .eql => some (.bool (decide (x = y)))
    | .neq => some (.bool (!decide (x = y)))
    | _ => none
  else none

theorem aggEqR_sound {P : Program} {op : BinOp} {t : TypeId} {M : Mp} {x x' y y' v : Value} (xo yo : Operand) (w : World) (hx : VRel M x x') (hy : VRel M y y') (h : aggEqR P op t x y = some v) :
    (do eqGuard op t xo yo x' y'; binOp op t x' y').run P w = .ok v w ∧ VRel M v v := by
  unfold aggEqR at h
  split at h
  · rename_i hc
    obtain ⟨law, f1, f2, ⟨cs, rfl⟩, ⟨ds, rfl⟩, ⟨lx, hlx⟩, ⟨ly, hly⟩⟩ := hc
    have ex := (hx.flat f1).symm
    have ey := (hy.flat f2).symm
    subst ex ey
    obtain ⟨r, hr, hiff⟩ := law.eq w hlx hly
    rw [Sem.run_bind, run_eqGuard_agg (w := w) op t xo yo cs ds law.guard]
    simp only [Result.andThen_ok]
    split at h
    · obtain rfl := Option.some.inj h
      refine ⟨?_, .bool _⟩
      rw [run_eql_struct, hr]
      simp only [Result.andThen_ok]
      congr 2
      by_cases e : (Value.agg cs) = .agg ds
      · simp [e, hiff.2 e]
      · have : r = false := by cases r; rfl; exact absurd (hiff.1 rfl) e
        simp [e, this]
    · obtain rfl := Option.some.inj h
      refine ⟨?_, .bool _⟩
      rw [run_neq_struct, hr]
      simp only [Result.andThen_ok]
      congr 2
      by_cases e : (Value.agg cs) = .agg ds
      · simp [e, hiff.2 e]
      · have : r = false := by cases r; rfl; exact absurd (hiff.1 rfl) e
        simp [e, this]
    · cases h
  · cases h
end Ab
