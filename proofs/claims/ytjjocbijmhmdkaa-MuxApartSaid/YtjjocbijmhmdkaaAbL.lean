import Derived.Test.YtjjocbijmhmdkaaAbMp
import Derived.Laws.Build
namespace Ab
open Go
set_option autoImplicit false
set_option linter.unusedVariables false
set_option linter.unusedSimpArgs false

/-! ### Operands in rows -/
def evs (ρ : Operand → Option Value) : List Operand → Option (List Value)
  | [] => some []
  | x :: l => (ρ x).bind fun v => (evs ρ l).bind fun r => some (v :: r)

def evParts (ρ : Operand → Option Value) : List (Nat × Operand) → Option (List (Nat × Value))
  | [] => some []
  | (i, x) :: l => (ρ x).bind fun v => if v.known then (evParts ρ l).bind fun r => some ((i, v) :: r) else none

def evO (ρ : Operand → Option Value) : Option Operand → Option (Option Value)
  | none => some none
  | some x => (ρ x).map some

section
variable {M : Mp} {s : St} {h : AHeap} {a : Act} {w : World} (sr : SRel M s a) (r : Rel M h w)
include sr r
theorem evs_sound : ∀ {l : List Operand} {vs : List Value}, evs (ev h.base s) l = some vs → VRels M vs.toArray (l.map a.eval).toArray
  | [], vs, e => by simp only [evs, Option.some.injEq] at e; subst e; exact VRels.nil
  | x :: l, vs, e => by
    simp only [evs, Option.bind_eq_some_iff, Option.some.injEq] at e
    obtain ⟨v, hv, rs, hr, rfl⟩ := e
    have h1 := ev_sound sr r hv
    have h2 := evs_sound hr
    have := (VRels.single h1).append h2
    simpa using this
theorem evParts_sound : ∀ {l : List (Nat × Operand)} {vs : List (Nat × Value)}, evParts (ev h.base s) l = some vs → PRels M vs (l.map fun p => (p.1, a.eval p.2))
  | [], vs, e => by simp only [evParts, Option.some.injEq] at e; subst e; exact .nil
  | (i, x) :: l, vs, e => by
    simp only [evParts, Option.bind_eq_some_iff] at e
    obtain ⟨v, hv, e⟩ := e
    split at e
    · rename_i hk
      simp only [Option.bind_eq_some_iff, Option.some.injEq] at e
      obtain ⟨rs, hr, rfl⟩ := e
      exact .cons i v _ rs _ (ev_sound sr r hv) hk (evParts_sound hr)
    · cases e
theorem evO_sound {x : Option Operand} {v : Option Value} (e : evO (ev h.base s) x = some v) : ORel M v (x.map a.eval) := by
  cases x with
  | none => simp only [evO, Option.some.injEq] at e; subst e; exact .none
  | some x =>
    simp only [evO, Option.map_eq_some_iff] at e
    obtain ⟨u, hu, rfl⟩ := e
    exact .some _ _ (ev_sound sr r hu)
end

/-! ### One operation -/
/-- What only reads. -/
def convR (P : Program) (h : AHeap) (src dst : TypeId) (v : Value) : Option Value :=
  match v with
  | .int _ _ => convP P src dst v
  | .string _ => convP P src dst v
  | .slice _ _ _ => match strR P h src dst v with
    | some u => some u
    | none => convS P h src dst v
  | _ => none

def builtinR (P : Program) (h : AHeap) (b : Builtin) (ts : Array TypeId) (vs : List Value) : Option Value :=
  match b, vs with
  | .len, [v] => (ts[0]?).bind fun t => lenE P h t v
  | .min, x :: l => foldA min2A x l
  | .max, x :: l => foldA max2A x l
  | _, _ => none

noncomputable def evalR (P : Program) (h : AHeap) (s : St) (o : Op) : Option Value :=
  match o with
  | .move x => ev h.base s x
  | .assign x => ev h.base s x
  | .pick c x y => (ev h.base s c).bind fun c => match c with
    | .bool b => if b then ev h.base s x else ev h.base s y
    | _ => none
  | .binOp op t x y _ => (ev h.base s x).bind fun v => (ev h.base s y).bind fun u => match binA P op t v u with
    | some r => some r
    | none => aggEqR P op t v u
  | .lookup t x i ok => (ev h.base s x).bind fun v => (ev h.base s i).bind fun u => lookupR P h t v u ok
  | .entry x => (ev h.base s x).bind fun v => entryR h v
  | .unOp op _ x => (ev h.base s x).bind fun v => unA op v
  | .convert src dst x => (ev h.base s x).bind fun v => convR P h src dst v
  | .field t x f => (ev h.base s x).bind fun v => fieldP P t f v
  | .extract x i => (ev h.base s x).bind fun v => extractP i v
  | .index t x i => (ev h.base s x).bind fun v => (ev h.base s i).bind fun u => indexP P t v u
  | .nilCheck x => (ev h.base s x).bind fun v => nilCheckP v
  | .fieldAddr t x f => (ev h.base s x).bind fun v => fieldAddrP P t f v
  | .indexAddr t x i => (ev h.base s x).bind fun v => (ev h.base s i).bind fun u => indexAddrP P t v u
  | .load t x => (ev h.base s x).bind fun v => loadR P h t v
  | .build t ps => (evParts (ev h.base s) ps.toList).bind fun l => buildP P t l
  | .slice t x lo hi mx => (ev h.base s x).bind fun v => (evO (ev h.base s) lo).bind fun lo => (evO (ev h.base s) hi).bind fun hi => (evO (ev h.base s) mx).bind fun mx => sliceR P h t v lo hi mx
  | .makeInterface t x => if P.concrete t then (ev h.base s x).map fun v => .iface t v else none
  | .makeFunc fn first cap => (evs (ev h.base s) first.toList).bind fun f => (evs (ev h.base s) cap.toList).map fun c => .func fn f.toArray c.toArray
  | .call { callee := .builtin b, args, argTypes } => (evs (ev h.base s) args.toList).bind fun vs => builtinR P h b argTypes vs
  | _ => none

/-- What makes one new object, whose number `id` is to be. -/
def evalA (P : Program) (id base : Nat) (s : St) (o : Op) : Option (Value × AObj) :=
  match o with
  | .alloc e => allocA P id e
  | .box e x => (ev base s x).bind fun v => boxA id e v
  | .buildSlice t n ps => (evParts (ev base s) ps.toList).bind fun l => buildSliceA P id t n l
  | .makeSlice t l c => (ev base s l).bind fun v => (ev base s c).bind fun u => makeSliceA P id t v u
  | .convert src dst x => (ev base s x).bind fun v => bytesA P id src dst v
  | .makeMap _ none => some (.map (some id), .other (.map #[] 0))
  | _ => none

/-- What writes. -/
noncomputable def evalW (P : Program) (h : AHeap) (s : St) (o : Op) : Option (Value × AHeap) :=
  match o with
  | .store t x y => (ev h.base s x).bind fun v => (ev h.base s y).bind fun u => (storeW P h t v u).map (undef, ·)
  | .call { callee := .builtin .append, args, argTypes } => match argTypes.toList with
    | [t, xt] => match args.toList with
      | [x, y] => (ev h.base s x).bind fun v => (ev h.base s y).bind fun u => appendW P h t xt v u
      | _ => none
    | _ => none
  | .call { callee := .builtin .delete, args, argTypes } => match argTypes.toList with
    | [t, _] => match args.toList with
      | [x, y] => (ev h.base s x).bind fun v => (ev h.base s y).bind fun u => (delW P h t v u).map (.tuple #[], ·)
      | _ => none
    | _ => none
  | .call { callee := .builtin .clear, args, argTypes } => match argTypes.toList with
    | [t] => match args.toList with
      | [x] => (ev h.base s x).bind fun v => (clearW P h t v).map (.tuple #[], ·)
      | _ => none
    | _ => none
  | .mapUpdate t m k x => (ev h.base s m).bind fun v => (ev h.base s k).bind fun u => (ev h.base s x).bind fun y => (mapUpdW P h t v u y).map (undef, ·)
  | .range t x => (ev h.base s x).bind fun v => rangeW P h t v
  | _ => none

theorem toArray_map {α β : Type} (f : α → β) (x : Array α) : (x.toList.map f).toArray = x.map f := by
  apply Array.ext'
  rw [Array.toList_map]

theorem VRel.undef (M : Mp) : VRel M undef undef := .tuple _ _ rfl fun j h => absurd h (by simp)

theorem run_v {P : Program} {w : World} {x : Sem Value} {u : Value} {w' : World} (e : x.run P w = .ok u w') : (do pure (Next.value (← x)) : Sem Next).run P w = .ok (.value u) w' := by
  rw [Sem.run_bind, e]; rfl

section
variable {P : Program} {M : Mp} {s : St} {h h' : AHeap} {a : Act} {w : World} {o : Oper} {v : Value}

/-- What a reading operation comes to. -/
def GivesR (P : Program) (o : Oper) (M : Mp) (h : AHeap) (a : Act) (w : World) (v : Value) : Prop :=
  ∃ w' vc, (execOp a.eval o).run P w = .ok (.value vc) w' ∧ VRel M v vc ∧ Rel M h w' ∧ Post M h w M h w'

theorem GivesR.pure {v vc : Value} (r : Rel M h w) (e : (execOp a.eval o).run P w = .ok (.value vc) w) (hv : VRel M v vc) : GivesR P o M h a w v :=
  ⟨w, vc, e, hv, r, Post.refl _ _ _⟩

theorem evalR_sound (sr : SRel M s a) (r : Rel M h w) (e : evalR P h s o.op = some v) : GivesR P o M h a w v := by
  unfold evalR at e
  split at e
  case _ x hop =>   -- move
    exact .pure r (by simp [execOp, hop]) (ev_sound sr r e)
  case _ x hop =>   -- assign
    exact .pure r (by simp [execOp, hop]) (ev_sound sr r e)
  case _ c x y hop =>   -- pick
    simp only [Option.bind_eq_some_iff] at e
    obtain ⟨cv, hc, e⟩ := e
    split at e
    · rename_i b
      have hcv := ev_sound sr r hc
      have hce : a.eval c = .bool b := by generalize a.eval c = q at hcv; cases hcv; rfl
      cases b
      · exact .pure r (by simp [execOp, hop, hce, asBool, Result.andThen]) (ev_sound sr r e)
      · exact .pure r (by simp [execOp, hop, hce, asBool, Result.andThen]) (ev_sound sr r e)
    · cases e
  case _ op t x y yt hop =>   -- binOp
    simp only [Option.bind_eq_some_iff] at e
    obtain ⟨p, hp, q, hq, hu⟩ := e
    obtain ⟨h1, h2⟩ : (do eqGuard op t x y (a.eval x) (a.eval y); binOp op t (a.eval x) (a.eval y)).run P w = .ok v w ∧ VRel M v v := by
      split at hu
      · rename_i r1 hr1
        obtain rfl := Option.some.inj hu
        exact run_bin (P := P) x y w (ev_sound sr r hp) (ev_sound sr r hq) hr1
      · exact aggEqR_sound (P := P) x y w (ev_sound sr r hp) (ev_sound sr r hq) hu
    refine .pure r ?_ h2
    simp only [execOp, hop]
    exact run_v h1
  case _ t x i ok hop =>   -- lookup
    simp only [Option.bind_eq_some_iff] at e
    obtain ⟨p, hp, q, hq, hu⟩ := e
    obtain ⟨u', h1, h2⟩ := lookupR_sound (P := P) r (ev_sound sr r hp) (ev_sound sr r hq) hu
    exact .pure r (by simp only [execOp, hop]; exact run_v h1) h2
  case _ x hop =>   -- entry
    simp only [Option.bind_eq_some_iff] at e
    obtain ⟨p, hp, hu⟩ := e
    obtain ⟨u', h1, h2⟩ := entryR_sound (P := P) r (ev_sound sr r hp) hu
    exact .pure r (by simp only [execOp, hop]; exact run_v h1) h2
  case _ op t x hop =>   -- unOp
    simp only [Option.bind_eq_some_iff] at e
    obtain ⟨p, hp, hu⟩ := e
    obtain ⟨h1, h2⟩ := unA_sound (P := P) w (ev_sound sr r hp) hu
    refine .pure r ?_ h2
    simp only [execOp, hop]
    exact run_v h1
  case _ src dst x hop =>   -- convert
    simp only [Option.bind_eq_some_iff] at e
    obtain ⟨p, hp, e⟩ := e
    have hx := ev_sound sr r hp
    unfold convR at e
    split at e
    · obtain ⟨h1, h2⟩ := convP_sound (P := P) w hx e
      exact .pure r (by simp only [execOp, hop]; exact run_v h1) h2
    · obtain ⟨h1, h2⟩ := convP_sound (P := P) w hx e
      exact .pure r (by simp only [execOp, hop]; exact run_v h1) h2
    · split at e
      · rename_i u hu
        obtain rfl := Option.some.inj e
        obtain ⟨h1, h2⟩ := strR_sound (P := P) r hx hu
        exact .pure r (by simp only [execOp, hop]; exact run_v h1) h2
      · obtain ⟨u', w', h1, h2, h3, h4⟩ := convS_sound (P := P) r hx e
        exact ⟨w', u', by simp only [execOp, hop]; exact run_v h1, h2, h3, h4⟩
    · cases e
  case _ t x f hop =>   -- field
    simp only [Option.bind_eq_some_iff] at e
    obtain ⟨p, hp, hu⟩ := e
    obtain ⟨u', h1, h2⟩ := fieldP_sound (P := P) w (ev_sound sr r hp) hu
    exact .pure r (by simp only [execOp, hop]; exact run_v h1) h2
  case _ x i hop =>   -- extract
    simp only [Option.bind_eq_some_iff] at e
    obtain ⟨p, hp, hu⟩ := e
    obtain ⟨u', h1, h2⟩ := extractP_sound (P := P) w (ev_sound sr r hp) hu
    exact .pure r (by simp only [execOp, hop]; exact run_v h1) h2
  case _ t x i hop =>   -- index
    simp only [Option.bind_eq_some_iff] at e
    obtain ⟨p, hp, q, hq, hu⟩ := e
    obtain ⟨u', h1, h2⟩ := indexP_sound (P := P) w (ev_sound sr r hp) (ev_sound sr r hq) hu
    exact .pure r (by simp only [execOp, hop]; exact run_v h1) h2
  case _ x hop =>   -- nilCheck
    simp only [Option.bind_eq_some_iff] at e
    obtain ⟨p, hp, hu⟩ := e
    have hx := ev_sound sr r hp
    obtain ⟨rfl, hc⟩ := nilCheckP_sound hx hu
    refine .pure r ?_ hx
    rcases hc with ⟨x', he⟩ | ⟨x', n, c, he⟩ | ⟨f, x', y', he⟩ | ⟨t, x', he⟩ | ⟨x', he⟩ <;> simp [execOp, hop, he]
  case _ t x f hop =>   -- fieldAddr
    simp only [Option.bind_eq_some_iff] at e
    obtain ⟨p, hp, hu⟩ := e
    obtain ⟨u', h1, h2⟩ := fieldAddrP_sound (P := P) w (ev_sound sr r hp) hu
    exact .pure r (by simp only [execOp, hop]; exact run_v h1) h2
  case _ t x i hop =>   -- indexAddr
    simp only [Option.bind_eq_some_iff] at e
    obtain ⟨p, hp, q, hq, hu⟩ := e
    obtain ⟨u', h1, h2⟩ := indexAddrP_sound (P := P) w (ev_sound sr r hp) (ev_sound sr r hq) hu
    exact .pure r (by simp only [execOp, hop]; exact run_v h1) h2
  case _ t x hop =>   -- load
    simp only [Option.bind_eq_some_iff] at e
    obtain ⟨p, hp, hu⟩ := e
    obtain ⟨u', h1, h2⟩ := loadR_sound (P := P) r (ev_sound sr r hp) hu
    exact .pure r (by simp only [execOp, hop]; exact run_v h1) h2
  case _ t ps hop =>   -- build
    simp only [Option.bind_eq_some_iff] at e
    obtain ⟨l, hl, hu⟩ := e
    obtain ⟨u', h1, h2⟩ := buildP_sound (P := P) w (evParts_sound sr r hl) hu
    refine .pure r ?_ h2
    simp only [execOp, hop]
    refine run_v ?_
    rw [← h1, toArray_map]
  case _ t x lo hi mx hop =>   -- slice
    simp only [Option.bind_eq_some_iff] at e
    obtain ⟨p, hp, q1, hq1, q2, hq2, q3, hq3, hu⟩ := e
    obtain ⟨u', h1, h2⟩ := sliceR_sound (P := P) r (ev_sound sr r hp) (evO_sound sr r hq1) (evO_sound sr r hq2) (evO_sound sr r hq3) hu
    exact .pure r (by simp only [execOp, hop]; exact run_v h1) h2
  case _ t x hop =>   -- makeInterface
    split at e
    · rename_i hc
      simp only [Option.map_eq_some_iff] at e
      obtain ⟨p, hp, rfl⟩ := e
      exact .pure r (by simp only [execOp, hop]; exact run_v (run_makeInterface w t _ hc)) (.iface t _ _ (ev_sound sr r hp))
    · cases e
  case _ fn first cap hop =>   -- makeFunc
    simp only [Option.bind_eq_some_iff, Option.map_eq_some_iff] at e
    obtain ⟨f, hf, c, hc, rfl⟩ := e
    have h1 := evs_sound sr r hf
    have h2 := evs_sound sr r hc
    refine .pure r (vc := .func fn (first.map a.eval) (cap.map a.eval)) (by simp [execOp, hop, Instr.makeFunc, Result.andThen]) ?_
    have e1 := toArray_map a.eval first
    have e2 := toArray_map a.eval cap
    rw [e1] at h1; rw [e2] at h2
    exact .func fn _ _ _ _ h1.1 h1.2 h2.1 h2.2
  case _ b args ts hop =>   -- a builtin
    simp only [Option.bind_eq_some_iff] at e
    obtain ⟨vs, hvs, e⟩ := e
    have hr := evs_sound sr r hvs
    have eargs := toArray_map a.eval args
    rw [eargs] at hr
    generalize hargs : args.map a.eval = cargs at hr
    have hexec : ∀ {x : Sem Value} {u : Value}, (∀ consts, builtin b ts o.type consts cargs = (do pure (Next.value (← x)))) → x.run P w = .ok u w → (execOp a.eval o).run P w = .ok (.value u) w := by
      intro x u h0 h1
      simp only [execOp, hop, resolve, Sem.run_bind, Sem.run_pure, Result.andThen, invoke, hargs]
      rw [h0]
      exact run_v h1
    unfold builtinR at e
    split at e
    · -- len
      rename_i x
      simp only [Option.bind_eq_some_iff] at e
      obtain ⟨t, ht, hu⟩ := e
      obtain ⟨x', rfl⟩ : ∃ x', cargs = #[x'] := by
        have := hr.1; simp at this
        exact Array.size_eq_one_iff.1 this.symm
      obtain ⟨h1, h2⟩ := lenE_sound (P := P) (ty := o.type) r (hr.2 0 (by simp) (by simp)) hu ht
      exact .pure r (hexec (fun _ => rfl) h1) h2
    · -- min
      rename_i x l
      obtain ⟨x', l', rfl⟩ : ∃ x' l', cargs = (x' :: l').toArray := by
        rcases cargs with ⟨_ | ⟨x', l'⟩⟩
        · have := hr.1; simp at this
        · exact ⟨x', l', rfl⟩
      obtain ⟨hx, hl⟩ := hr.tail
      obtain ⟨h1, h2⟩ := foldA_sound (P := P) (M := M) (w := w) (g := Builtin.min2) (fun x y z => min2A_sound x y z) l l' x x' v hx hl e
      exact .pure r (hexec (fun _ => rfl) h1) h2
    · -- max
      rename_i x l
      obtain ⟨x', l', rfl⟩ : ∃ x' l', cargs = (x' :: l').toArray := by
        rcases cargs with ⟨_ | ⟨x', l'⟩⟩
        · have := hr.1; simp at this
        · exact ⟨x', l', rfl⟩
      obtain ⟨hx, hl⟩ := hr.tail
      obtain ⟨h1, h2⟩ := foldA_sound (P := P) (M := M) (w := w) (g := Builtin.max2) (fun x y z => max2A_sound x y z) l l' x x' v hx hl e
      exact .pure r (hexec (fun _ => rfl) h1) h2
    · cases e
  case _ => cases e

/-- The same of the operation as a whole: one new object. -/
def GivesA (P : Program) (o : Oper) (M : Mp) (a : Act) (w : World) (id : Nat) (v : Value) (ob : AObj) : Prop :=
  ∃ (vc : Value) (w1 : World) (co : Obj) (sz esz : Nat) (op : Bool), (execOp a.eval o).run P w = .ok (.value vc) ({ w1 with heap := w.heap.push co } : World) ∧ w1.heap = w.heap ∧ w1.os = w.os ∧ w1.tape = w.tape ∧ w1.output = w.output ∧
    ∀ M', M.le M' → M' id = some ⟨w.heap.size, 0, sz, esz, op⟩ → VRel M' v vc ∧ ObjRel M' ⟨w.heap.size, 0, sz, esz, op⟩ ({ w1 with heap := w.heap.push co } : World) ob

theorem AllocOk.gives {id : Nat} {x : Sem Value} {ob : AObj} (k : AllocOk P M w id x v ob) (hx : execOp a.eval o = (do pure (Next.value (← x)))) : GivesA P o M a w id v ob := by
  obtain ⟨vc, w1, co, sz, esz, op, h1, h2⟩ := k
  exact ⟨vc, w1, co, sz, esz, op, by rw [hx]; exact run_v h1, h2⟩

theorem evalA_sound {id : Nat} {ob : AObj} (sr : SRel M s a) (r : Rel M h w) (e : evalA P id h.base s o.op = some (v, ob)) : GivesA P o M a w id v ob := by
  unfold evalA at e
  split at e
  case _ t hop => exact (allocA_sound e).gives (by simp only [execOp, hop])
  case _ t x hop =>
    simp only [Option.bind_eq_some_iff] at e
    obtain ⟨p, hp, e⟩ := e
    exact (boxA_sound (ev_sound sr r hp) e).gives (by simp only [execOp, hop])
  case _ t n ps hop =>
    simp only [Option.bind_eq_some_iff] at e
    obtain ⟨l, hl, e⟩ := e
    refine (buildSliceA_sound (evParts_sound sr r hl) e).gives ?_
    simp only [execOp, hop, toArray_map]
  case _ t l c hop =>
    simp only [Option.bind_eq_some_iff] at e
    obtain ⟨p, hp, q, hq, e⟩ := e
    exact (makeSliceA_sound (ev_sound sr r hp) (ev_sound sr r hq) e).gives (by simp only [execOp, hop])
  case _ src dst x hop =>
    simp only [Option.bind_eq_some_iff] at e
    obtain ⟨p, hp, e⟩ := e
    exact (bytesA_sound (ev_sound sr r hp) e).gives (by simp only [execOp, hop])
  case _ t hop =>
    simp only [Option.some.injEq, Prod.mk.injEq] at e
    obtain ⟨rfl, rfl⟩ := e
    refine ⟨.map (some w.heap.size), w, .map #[] 0, 0, 1, false, ?_, rfl, rfl, rfl, rfl, fun M' hle hid => ⟨.map id _ hid, ⟨#[], by simp, rfl, fun j h => by simp at h⟩⟩⟩
    simp only [execOp, hop]
    refine run_v ?_
    simp [Instr.makeMap, newObj, Sem.run, Result.andThen]
  case _ => cases e

/-- What an operation comes to: a value, or nothing ('undef'). -/
def Gives (P : Program) (o : Oper) (M : Mp) (h : AHeap) (a : Act) (w : World) (v : Value) (h' : AHeap) : Prop :=
  ∃ w' M' vc, ((execOp a.eval o).run P w = .ok (.value vc) w' ∨ ((execOp a.eval o).run P w = .ok .skip w' ∧ vc = undef)) ∧ VRel M' v vc ∧ Rel M' h' w' ∧ Post M h w M' h' w'

theorem evalW_sound (sr : SRel M s a) (r : Rel M h w) (e : evalW P h s o.op = some (v, h')) : Gives P o M h a w v h' := by
  unfold evalW at e
  split at e
  case _ t x y hop =>
    simp only [Option.bind_eq_some_iff, Option.map_eq_some_iff, Prod.mk.injEq] at e
    obtain ⟨p, hp, q, hq, h2, hs, rfl, rfl⟩ := e
    obtain ⟨w', h1, h3, h4⟩ := storeW_sound (P := P) r (ev_sound sr r hp) (ev_sound sr r hq) hs
    refine ⟨w', M, undef, .inr ⟨?_, rfl⟩, VRel.undef M, h3, h4⟩
    simp only [execOp, hop, Sem.run_bind, h1, Result.andThen, Sem.run_pure]
  case _ args ts hop =>
    split at e
    · rename_i t xt hts
      split at e
      · rename_i x y hargs
        simp only [Option.bind_eq_some_iff] at e
        obtain ⟨p, hp, q, hq, e⟩ := e
        have hts2 : ts = #[t, xt] := by rw [← Array.toArray_toList (xs := ts), hts]
        have har2 : args = #[x, y] := by rw [← Array.toArray_toList (xs := args), hargs]
        subst hts2 har2
        obtain ⟨u', w', M', h1, h2, h3, h4⟩ := appendW_sound (P := P) (ty := o.type) r (ev_sound sr r hp) (ev_sound sr r hq) e
        refine ⟨w', M', u', .inl ?_, h2, h3, h4⟩
        have e2 : (#[x, y] : Array Operand).map a.eval = #[a.eval x, a.eval y] := by simp
        simp only [execOp, hop, resolve, Sem.run_bind, Sem.run_pure, Result.andThen, invoke, e2]
        exact run_v h1
      · cases e
    · cases e
  case _ args ts hop =>   -- delete
    split at e
    · rename_i t xt hts
      split at e
      · rename_i x y hargs
        simp only [Option.bind_eq_some_iff, Option.map_eq_some_iff, Prod.mk.injEq] at e
        obtain ⟨p, hp, q, hq, h2, hs, rfl, rfl⟩ := e
        have hts2 : ts = #[t, xt] := by rw [← Array.toArray_toList (xs := ts), hts]
        have har2 : args = #[x, y] := by rw [← Array.toArray_toList (xs := args), hargs]
        subst hts2 har2
        obtain ⟨w', h1, h3, h4⟩ := delW_sound (P := P) (ty := o.type) (ts := #[t, xt]) r (ev_sound sr r hp) (ev_sound sr r hq) rfl hs
        refine ⟨w', M, .tuple #[], .inl ?_, VRel.undef M, h3, h4⟩
        have e2 : (#[x, y] : Array Operand).map a.eval = #[a.eval x, a.eval y] := by simp
        simp only [execOp, hop, resolve, Sem.run_bind, Sem.run_pure, Result.andThen, invoke, e2]
        exact run_v h1
      · cases e
    · cases e
  case _ args ts hop =>   -- clear
    split at e
    · rename_i t hts
      split at e
      · rename_i x hargs
        simp only [Option.bind_eq_some_iff, Option.map_eq_some_iff, Prod.mk.injEq] at e
        obtain ⟨p, hp, h2, hs, rfl, rfl⟩ := e
        have hts2 : ts = #[t] := by rw [← Array.toArray_toList (xs := ts), hts]
        have har2 : args = #[x] := by rw [← Array.toArray_toList (xs := args), hargs]
        subst hts2 har2
        obtain ⟨w', h1, h3, h4⟩ := clearW_sound (P := P) (ty := o.type) (ts := #[t]) r (ev_sound sr r hp) rfl hs
        refine ⟨w', M, .tuple #[], .inl ?_, VRel.undef M, h3, h4⟩
        have e2 : (#[x] : Array Operand).map a.eval = #[a.eval x] := by simp
        simp only [execOp, hop, resolve, Sem.run_bind, Sem.run_pure, Result.andThen, invoke, e2]
        exact run_v h1
      · cases e
    · cases e
  case _ t m k x hop =>   -- mapUpdate
    simp only [Option.bind_eq_some_iff, Option.map_eq_some_iff, Prod.mk.injEq] at e
    obtain ⟨p, hp, q, hq, y, hy, h2, hs, rfl, rfl⟩ := e
    obtain ⟨w', h1, h3, h4⟩ := mapUpdW_sound (P := P) r (ev_sound sr r hp) (ev_sound sr r hq) (ev_sound sr r hy) hs
    refine ⟨w', M, undef, .inr ⟨?_, rfl⟩, VRel.undef M, h3, h4⟩
    simp only [execOp, hop, Sem.run_bind, h1, Result.andThen, Sem.run_pure]
  case _ t x hop =>   -- range
    simp only [Option.bind_eq_some_iff] at e
    obtain ⟨p, hp, hs⟩ := e
    obtain ⟨v', w', M', h1, h2, h3, h4⟩ := rangeW_sound (P := P) r (ev_sound sr r hp) hs
    exact ⟨w', M', v', .inl (by simp only [execOp, hop]; exact run_v h1), h2, h3, h4⟩
  case _ => cases e

noncomputable def evalOp (P : Program) (h : AHeap) (s : St) (o : Op) : Option (Value × AHeap) :=
  match evalR P h s o with
  | some v => some (v, h)
  | none => match evalA P h.next h.base s o with
    | some (v, ob) => some (v, h.push ob)
    | none => evalW P h s o

theorem evalOp_sound (sr : SRel M s a) (r : Rel M h w) (e : evalOp P h s o.op = some (v, h')) : Gives P o M h a w v h' := by
  unfold evalOp at e
  split at e
  · rename_i u hu
    simp only [Option.some.injEq, Prod.mk.injEq] at e
    obtain ⟨rfl, rfl⟩ := e
    obtain ⟨w', vc, h1, h2, h3, h4⟩ := evalR_sound sr r hu
    exact ⟨w', M, vc, .inl h1, h2, h3, h4⟩
  · split at e
    · rename_i u ob hu
      simp only [Option.some.injEq, Prod.mk.injEq] at e
      obtain ⟨rfl, rfl⟩ := e
      obtain ⟨vc, w1, co, sz, esz, op, h1, g1, g2, g3, g4, h2⟩ := evalA_sound sr r hu
      have r1 : Rel M h w1 := r.world g1
      have hk := h2 (upd M h.next ⟨w.heap.size, 0, sz, esz, op⟩) (upd_le (r.fresh _ (Nat.le_refl _))) (upd_self _ _ _)
      have hsz : w1.heap.size = w.heap.size := by rw [g1]
      obtain ⟨r2, p2⟩ := r1.alloc (o := ob) (co := co) (sz := sz) (esz := esz) (op := op) (by rw [hsz, g1]; exact hk.2)
      rw [hsz, g1] at r2 p2
      exact ⟨_, _, vc, .inl h1, hk.1, r2, (Post.world (M := M) (h := h) (w := w) (w' := w1) g1 g2 g3 g4).trans p2⟩
    · exact evalW_sound sr r e
end
end Ab
