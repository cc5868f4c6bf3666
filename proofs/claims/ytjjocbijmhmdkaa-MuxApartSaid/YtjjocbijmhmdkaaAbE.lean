import Derived.Test.YtjjocbijmhmdkaaAbD
namespace Ab
open Go
set_option autoImplicit false
set_option linter.unusedVariables false
set_option linter.unusedSimpArgs false

theorem upd_self (M : Mp) (i : Nat) (b : Blk) : upd M i b i = some b := by simp [upd]

/-- An operation that makes one new object, and does nothing else: whatever number `id` the object is to have. -/
def AllocOk (P : Program) (M : Mp) (w : World) (id : Nat) (x : Sem Value) (v : Value) (o : AObj) : Prop :=
  ∃ (vc : Value) (w1 : World) (co : Obj) (sz esz : Nat) (op : Bool), x.run P w = .ok vc ({ w1 with heap := w.heap.push co } : World) ∧ w1.heap = w.heap ∧ w1.os = w.os ∧ w1.tape = w.tape ∧ w1.output = w.output ∧
    ∀ M', M.le M' → M' id = some ⟨w.heap.size, 0, sz, esz, op⟩ → VRel M' v vc ∧ ObjRel M' ⟨w.heap.size, 0, sz, esz, op⟩ ({ w1 with heap := w.heap.push co } : World) o

/-- A new row of cells, known whole. -/
theorem AllocOk.row {P : Program} {M : Mp} {w : World} {id : Nat} {x : Sem Value} {v vc : Value} {cs ccs : Array Value} {e : TypeId} {sz : Nat} (hc : VRels M cs ccs)
    (hx : x.run P w = .ok vc { w with heap := w.heap.push (.cells ccs e) }) (hv : ∀ M' : Mp, M' id = some ⟨w.heap.size, 0, ccs.size, sz, false⟩ → VRel M' v vc) : AllocOk P M w id x v (.row cs.toList e sz true false) := by
  refine ⟨vc, w, _, ccs.size, sz, false, hx, rfl, rfl, rfl, rfl, fun M' hle hid => ⟨hv M' hid, ?_⟩⟩
  refine ⟨ccs, 0, 0, by simp, by simp, by simp [hc.1], rfl, (fun _ => rfl), (fun _ => .inl rfl), fun j v hj => ?_⟩
  simp only [Array.getElem?_toList] at hj
  obtain ⟨v', e1, hr⟩ := hc.get? hj
  exact ⟨v', by simpa using e1, hr.mono hle⟩

/-! ### New variables -/
theorem known_ne {v : Value} (h : v.known = true) : v ≠ poison := by rintro rfl; simp [poison, Value.known] at h

/-- A new variable that holds a value. -/
def boxA (id : Nat) (e : TypeId) (v : Value) : Option (Value × AObj) :=
  if v.known then some (.pointer (some ⟨id, 0, none⟩), .row v.cells.toList e v.cells.size true false) else none

theorem boxA_sound {P : Program} {M : Mp} {w : World} {id : Nat} {e : TypeId} {v v' u : Value} {o : AObj} (hv : VRel M v v') (hs : boxA id e v = some (u, o)) : AllocOk P M w id (Instr.box e v') u o := by
  unfold boxA at hs
  split at hs
  · rename_i hk
    simp only [Option.some.injEq, Prod.mk.injEq] at hs
    obtain ⟨rfl, rfl⟩ := hs
    exact AllocOk.row (VRels.cells hv (known_ne hk)) (by simp [Instr.box, newVar, newRow, Result.andThen]) (fun M' h => .ptr id 0 _ h)
  · cases hs

def allocA (P : Program) (id : Nat) (e : TypeId) : Option (Value × AObj) :=
  match tzero P e with
  | some z => if constOk z then boxA id e z else none
  | none => none

theorem allocA_sound {P : Program} {M : Mp} {w : World} {id : Nat} {e : TypeId} {u : Value} {o : AObj} (hs : allocA P id e = some (u, o)) : AllocOk P M w id (Instr.alloc e true (.tuple #[])) u o := by
  unfold allocA at hs
  split at hs
  · rename_i z hz
    split at hs
    · rename_i hc
      obtain ⟨vc, w1, co, sz, esz, op, h1, h2⟩ := boxA_sound (P := P) (M := M) (w := w) (VRel.const M hc) hs
      refine ⟨vc, w1, co, sz, esz, op, ?_, h2⟩
      unfold Instr.alloc
      rw [Sem.run_bind, run_tzero w hz]
      simpa [Result.andThen, Instr.box] using h1
    · cases hs
  · cases hs

/-! ### Structs, arrays and slices out of their parts -/
theorem VRels.foldl_set {M : Mp} (off : Nat) : ∀ (l l' : List Value) (k : Nat) (c c' : Array Value), VRels M c c' → l.length = l'.length → (∀ j (a : j < l.length) (b : j < l'.length), VRel M l[j] l'[j]) →
    VRels M ((l.zipIdx k).foldl (fun cs p => cs.setIfInBounds (off + p.2) p.1) c) ((l'.zipIdx k).foldl (fun cs p => cs.setIfInBounds (off + p.2) p.1) c')
  | [], [], _, _, _, h, _, _ => h
  | [], _ :: _, _, _, _, _, h, _ => by simp at h
  | _ :: _, [], _, _, _, _, h, _ => by simp at h
  | v :: l, v' :: l', k, c, c', h, hl, hr => by
    simp only [List.zipIdx_cons, List.foldl_cons]
    refine VRels.foldl_set off l l' (k + 1) _ _ (h.set (off + k) (hr 0 (by simp) (by simp))) (by simpa using hl) fun j a b => ?_
    have := hr (j + 1) (by simpa using a) (by simpa using b)
    simpa using this

inductive PRels (M : Mp) : List (Nat × Value) → List (Nat × Value) → Prop
  | nil : PRels M [] []
  | cons (i : Nat) (v v' : Value) (l l' : List (Nat × Value)) : VRel M v v' → v.known = true → PRels M l l' → PRels M ((i, v) :: l) ((i, v') :: l')

theorem fill_sound {M : Mp} (place : Nat → Option (Nat × Nat)) {l l' : List (Nat × Value)} (hl : PRels M l l') :
    ∀ {c c' r : Array Value}, VRels M c c' → Instr.fill place c l = some r → ∃ r', Instr.fill place c' l' = some r' ∧ VRels M r r' := by
  induction hl with
  | nil => intro c c' r hc h; simp only [Instr.fill, Option.some.injEq] at h; subst h; exact ⟨c', rfl, hc⟩
  | cons i v v' l l' hv hk _ ih =>
    intro c c' r hc h
    have hcs := VRels.cells hv (known_ne hk)
    unfold Instr.fill at h ⊢
    split at h
    · cases h
    · rename_i off size hp
      simp only [hp]
      split at h
      · cases h
      · rename_i hcond
        rw [← hcs.1, ← hc.1, if_neg hcond]
        refine ih ?_ h
        have := VRels.foldl_set (M := M) off v.cells.toList v'.cells.toList 0 c c' hc (by simpa using hcs.1) (fun j a b => by simpa using hcs.2 j (by simpa using a) (by simpa using b))
        simpa [← Array.toList_zipIdx, Array.foldl_toList] using this

def buildP (P : Program) (t : TypeId) (parts : List (Nat × Value)) : Option Value :=
  match tzero P t with
  | some z => if constOk z && parts.all (fun p => p.2.known) then
      match P.underlying t with
      | some (.struct fs) => if fs.toList.all (fun f => (tsz P f.type).isSome) then
          (Instr.fill (fun i => (fs[i]?).map fun f => (f.offset, (tsz P f.type).getD 0)) z.cells parts).map .agg else none
      | some (.array _ e) => (tsz P e).bind fun n => (Instr.fill (fun i => some (i * n, n)) z.cells parts).map .agg
      | _ => none
    else none
  | none => none

theorem run_places {P : Program} (w : World) : ∀ (fs : List Field), fs.all (fun f => (tsz P f.type).isSome) = true →
    (fs.mapM (m := Sem) fun f => do pure (f.offset, ← Go.sizeOf f.type)).run P w = .ok (fs.map fun f => (f.offset, (tsz P f.type).getD 0)) w
  | [], _ => rfl
  | f :: fs, h => by
    simp only [List.all_cons, Bool.and_eq_true] at h
    obtain ⟨n, hn⟩ := Option.isSome_iff_exists.1 h.1
    rw [List.mapM_cons]
    simp only [Sem.run_bind, run_tsz w hn, Result.andThen, Sem.run_pure, run_places w fs h.2, hn, List.map_cons, Option.getD_some]

theorem buildP_sound {P : Program} {t : TypeId} {M : Mp} {l l' : List (Nat × Value)} {v : Value} (w : World) (hl : PRels M l l') (h : buildP P t l = some v) :
    ∃ v', (Instr.build t l'.toArray).run P w = .ok v' w ∧ VRel M v v' := by
  unfold buildP at h
  split at h
  · rename_i z hz
    split at h
    · rename_i hk
      simp only [Bool.and_eq_true] at hk
      have hzk : z ≠ poison := by rintro rfl; simp [constOk, constCell, poison] at hk
      have hzr := VRels.cells (VRel.const M hk.1) hzk
      split at h
      · rename_i fs hd
        split at h
        · rename_i hall
          simp only [Option.map_eq_some_iff] at h
          obtain ⟨r, hr, rfl⟩ := h
          obtain ⟨r', hr', hrr⟩ := fill_sound _ hl hzr hr
          refine ⟨.agg r', ?_, hrr.agg⟩
          unfold Instr.build
          rw [Sem.run_bind, run_tzero w hz]
          simp only [Result.andThen]
          rw [Sem.run_bind, run_underlying hd]
          simp only [Result.andThen]
          rw [Sem.run_bind]
          have e1 : (fs.mapM (m := Sem) fun f => do pure (f.offset, ← Go.sizeOf f.type)).run P w = .ok ((fs.toList.map fun f => (f.offset, (tsz P f.type).getD 0)).toArray) w := by
            rw [Array.mapM_eq_mapM_toList, Sem.run_map, run_places w _ hall]; rfl
          rw [e1]
          simp only [Result.andThen]
          have e2 : (fun (i : Nat) => (fs.toList.map fun (f : Field) => (f.offset, (tsz P f.type).getD 0)).toArray[i]?) = fun i => (fs[i]?).map fun (f : Field) => (f.offset, (tsz P f.type).getD 0) := by
            funext i; simp
          rw [e2, hr']
          rfl
        · cases h
      · rename_i n e hd
        simp only [Option.bind_eq_some_iff, Option.map_eq_some_iff] at h
        obtain ⟨m, hm, r, hr, rfl⟩ := h
        obtain ⟨r', hr', hrr⟩ := fill_sound _ hl hzr hr
        refine ⟨.agg r', ?_, hrr.agg⟩
        unfold Instr.build
        rw [Sem.run_bind, run_tzero w hz]
        simp only [Result.andThen]
        rw [Sem.run_bind, run_underlying hd]
        simp only [Result.andThen]
        rw [Sem.run_bind, run_tsz w hm]
        simp only [Result.andThen, hr']
        rfl
      · cases h
    · cases h
  · cases h

theorem VRels.refl {M : Mp} {c : Array Value} (h : c.toList.all constCell = true) : VRels M c c := by
  rw [List.all_eq_true] at h
  exact ⟨rfl, fun j h1 _ => VRel.cell M (h _ (by simp))⟩

/-- The cells of a number of zero values. -/
def zeros (z : Array Value) (n : Nat) : Array Value := (Array.range n).map (z[· % z.size]!)

theorem zeros_const {z : Array Value} (hz : z.toList.all constCell = true) {n : Nat} (hs : z.size ≠ 0 ∨ n = 0) : (zeros z n).toList.all constCell = true := by
  rw [List.all_eq_true] at hz ⊢
  intro v hv
  simp only [zeros, Array.mem_toList_iff, Array.mem_map, Array.mem_range] at hv
  obtain ⟨i, hi, rfl⟩ := hv
  have h0 : z.size ≠ 0 := by rcases hs with h | h; exact h; omega
  have hlt : i % z.size < z.size := Nat.mod_lt _ (by omega)
  rw [getElem!_pos z _ hlt]
  exact hz _ (by simp)

theorem zeros_size (z : Array Value) (n : Nat) : (zeros z n).size = n := by simp [zeros]

theorem fill_size (place : Nat → Option (Nat × Nat)) : ∀ (l : List (Nat × Value)) {c r : Array Value}, Instr.fill place c l = some r → r.size = c.size
  | [], c, r, h => by simp only [Instr.fill, Option.some.injEq] at h; rw [h]
  | (i, v) :: l, c, r, h => by
    unfold Instr.fill at h
    split at h
    · cases h
    · split at h
      · cases h
      · rw [fill_size place l h]
        rename_i off size _ _
        have : ∀ (l : List (Value × Nat)) (c : Array Value), (l.foldl (fun cs p => cs.setIfInBounds (off + p.2) p.1) c).size = c.size := by
          intro l; induction l with
          | nil => intro c; rfl
          | cons p l ih => intro c; simp only [List.foldl_cons]; rw [ih]; simp
        rw [← Array.foldl_toList]
        exact this _ _

def buildSliceA (P : Program) (id : Nat) (t : TypeId) (len : Nat) (parts : List (Nat × Value)) : Option (Value × AObj) :=
  match P.underlying t with
  | some (.slice e) => match tsz P e, tzero P e with
    | some n, some z =>
      if n ≠ 0 ∧ z.cells.size ≠ 0 ∧ len * n ≤ 16777216 ∧ z.cells.toList.all constCell = true then
        (Instr.fill (fun i => some (i * n, n)) (zeros z.cells (len * n)) parts).map fun cs => (.slice (some ⟨id, 0, none⟩) len len, .row cs.toList e n true false)
      else none
    | _, _ => none
  | _ => none

theorem buildSliceA_sound {P : Program} {M : Mp} {w : World} {id : Nat} {t : TypeId} {len : Nat} {l l' : List (Nat × Value)} {u : Value} {o : AObj} (hl : PRels M l l')
    (hs : buildSliceA P id t len l = some (u, o)) : AllocOk P M w id (Instr.buildSlice t len l'.toArray) u o := by
  unfold buildSliceA at hs
  split at hs
  · rename_i e hd
    split at hs
    · rename_i n z hn hz
      split at hs
      · rename_i hc
        obtain ⟨h0, hz0, hlen, hall⟩ := hc
        simp only [Option.map_eq_some_iff, Prod.mk.injEq] at hs
        obtain ⟨cs, hf, rfl, rfl⟩ := hs
        obtain ⟨cs', hf', hr⟩ := fill_sound (M := M) (fun i => some (i * n, n)) hl (VRels.refl (zeros_const (n := len * n) hall (.inl hz0))) hf
        refine AllocOk.row (vc := .slice (some ⟨w.heap.size, 0, none⟩) len len) hr ?_ (fun M' h => .slice id 0 len len len _ h (Nat.le_refl _) (.inl rfl))
        unfold Instr.buildSlice
        rw [Sem.run_bind, run_underlying hd]
        simp only [Result.andThen]
        rw [Sem.run_bind, run_tsz w hn]
        simp only [Result.andThen]
        have hne : ¬ (len * n > 2 ^ 24) := by omega
        simp only [hne, if_false]
        by_cases hz2 : len * n = 0
        · simp only [Sem.run_bind, Sem.run_ite, hz2, if_true, Sem.run_pure, Result.andThen]
          have e3 : zeros z.cells (len * n) = #[] := by simp [hz2, zeros]
          rw [e3] at hf'
          have e4 : Array.range 0 = #[] := rfl
          simp only [e4, List.map_toArray, List.map_nil, Array.map_empty, hf', newRow, Sem.run_bind, run_newObj, Result.andThen, Sem.run_pure, Nat.add_zero]
        · simp only [Sem.run_bind, Sem.run_ite, hz2, if_false, Sem.run_pure, Result.andThen, run_tzero w hz]
          have e3 : (Array.range (len * n)).map (z.cells[· % z.cells.size]!) = zeros z.cells (len * n) := rfl
          simp only [e3, hf', newRow, Sem.run_bind, run_newObj, Result.andThen, Sem.run_pure, Nat.add_zero]
      · cases hs
    · cases hs
  · cases hs

end Ab
