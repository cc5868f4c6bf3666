import Derived.Test.YtdbonhhdpaklhaaGreatDoorAbLibB
import Derived.Laws.BitsLemmas
import Derived.Laws.Bits64
import Derived.Laws.Strings
import Derived.Below
import Derived.Laws.AppendOwn
section
namespace Ab
open Go
set_option autoImplicit false
set_option linter.unusedVariables false
set_option linter.unusedSimpArgs false

/-! ### The rules for the walk -/
/-- A row of operations without a call. -/
noncomputable def runL (P : Program) (ops : Array Oper) : List Oper → St → AHeap → Option (St × AHeap)
  | [], s, h => some (s, h)
  | o :: l, s, h => if dstOk s o.dst = true then
      match guardA ops s o.guard with
      | some true => match evalOp P h s o.op with
        | some (v, h') => runL P ops l (putO s o.dst v) h'
        | none => none
      | some false => runL P ops l (putO s o.dst undef) h
      | none => none
    else none

theorem awpL_of_run {P : Program} {ops : Array Oper} {Q : St → AHeap → Prop} : ∀ (l l2 : List Oper) {s s' : St} {h h' : AHeap}, runL P ops l s h = some (s', h') → awpL P ops Q l2 s' h' → awpL P ops Q (l ++ l2) s h
  | [], l2, s, s', h, h', e, k => by
    simp only [runL, Option.some.injEq, Prod.mk.injEq] at e
    obtain ⟨rfl, rfl⟩ := e
    exact k
  | o :: l, l2, s, s', h, h', e, k => by
    simp only [runL] at e
    split at e
    · rename_i hd
      refine ⟨hd, ?_⟩
      split at e
      · rename_i hg
        rw [hg]
        split at e
        · rename_i v h1 hv
          show stepA P o s h _
          unfold stepA
          rw [hv]
          exact awpL_of_run l l2 e k
        · cases e
      · rename_i hg
        rw [hg]
        exact awpL_of_run l l2 e k
      · cases e
    · cases e

noncomputable def runK (P : Program) (ops : Array Oper) (ts : List Nat) (s : St) (h : AHeap) : Option (St × AHeap) := (runL P ops ops.toList s h).map fun p => (p.1.only ts, p.2)

section
variable {P : Program} {Q : Exit → St → AHeap → Prop} {s s2 : St} {h h2 : AHeap} {id : Nat} {ops : Array Oper} {y : Code}

theorem AWP.only {c : Code} (ts : List Nat) (k : AWP P c Q (s.only ts) h) : AWP P c Q s h := k.weaken rfl fun t v ht => (only_get s ts t v ht).2

theorem AWP.sr (ts : List Nat) (e : runK P ops ts s h = some (s2, h2)) (k : AWP P y Q s2 h2) : AWP P (.seq (.region id ops false) y) Q s h := by
  unfold runK at e
  simp only [Option.map_eq_some_iff, Prod.mk.injEq] at e
  obtain ⟨⟨s1, h1⟩, e1, rfl, rfl⟩ := e
  refine AWP.seq (AWP.region ?_)
  have := awpL_of_run (Q := fun s h => AWP P y Q s h) ops.toList [] e1 (AWP.only ts k)
  rw [List.append_nil] at this
  exact this

theorem AWP.r (ts : List Nat) (e : runK P ops ts s h = some (s2, h2)) (k : ∀ s', s'.only ts = s2 → Q .normal s' h2) : AWP P (.region id ops false) Q s h := by
  unfold runK at e
  simp only [Option.map_eq_some_iff, Prod.mk.injEq] at e
  obtain ⟨⟨s1, h1⟩, e1, e2, rfl⟩ := e
  refine AWP.region ?_
  have := awpL_of_run (Q := fun s h => Q .normal s h) ops.toList [] e1 (k s1 e2)
  rw [List.append_nil] at this
  exact this

/-- A loop, of which some slots are told. -/
theorem AWP.loopR (ts : List Nat) {c : Code} (I : Nat → St → AHeap → Prop) (h₀ : ∃ n, I n (s.only ts) h)
    (round : ∀ n s h, I n s h → AWP P c (thn (fun s' h' => ∃ m, m < n ∧ I m (s'.only ts) h') Q) s h) : AWP P (.loop c) Q s h :=
  AWP.loop (fun n s h => I n (s.only ts) h) h₀ fun n s h hI => AWP.only ts (round n (s.only ts) h hI)

/-- Ways that meet again. -/
theorem AWP.cut (ts : List Nat) {x : Code} (I : St → AHeap → Prop) (k : AWP P x (thn (fun s h => I (s.only ts) h) Q) s h) (k2 : ∀ s h, I s h → AWP P y Q s h) : AWP P (.seq x y) Q s h :=
  AWP.seq (k.mono fun e s h q => by cases e <;> first | exact AWP.only ts (k2 _ _ q) | exact q)

/-- A region with calls: up to a call. -/
theorem AWP.sc (ts : List Nat) (k : awpL P ops (fun s' h' => AWP P y Q (s'.only ts) h') ops.toList s h) : AWP P (.seq (.region id ops false) y) Q s h := by
  refine AWP.seq (AWP.region ?_)
  have mono : ∀ (l : List Oper) (s : St) (h : AHeap), awpL P ops (fun s' h' => AWP P y Q (s'.only ts) h') l s h → awpL P ops (fun s' h' => AWP P y Q s' h') l s h := by
    intro l
    induction l with
    | nil => exact fun s h k => AWP.only ts k
    | cons o l ih =>
      rintro s h ⟨hd, k⟩
      refine ⟨hd, ?_⟩
      split at k
      · rename_i hg
        unfold stepA at k ⊢
        split at k
        · exact ih _ _ k
        · split at k
          · rename_i c _
            unfold callA at k ⊢
            split at k
            · split at k
              · split at k
                · exact k.imp (fun k => ⟨k.1, k.2.mono fun v h' q => ih _ _ q⟩) fun ⟨e, v, hx, he, q⟩ => ⟨e, v, hx, he, ih _ _ q⟩
                · exact k.elim
              · exact k.elim
            · exact k.elim
          · split at k
            · exact nextA_mono k fun v h' q => ih _ _ q
            · exact k.elim
          · exact k.elim
      · exact ih _ _ k
      · exact k.elim
  exact mono _ _ _ k

/-- What a call calls. -/
def callOf (s : St) (h : AHeap) (o : Op) : Option (FuncId × Array Value) :=
  match o with
  | .call { callee := .value f, args, .. } => match ev h.base s f with
    | some (.func (.func g) first cap) => (evs (ev h.base s) args.toList).map fun vs => (g, first ++ vs.toArray ++ cap)
    | _ => none
  | _ => none

theorem stepA_call {o : Oper} {g : FuncId} {args : Array Value} {K : Value → AHeap → Prop} (e : callOf s h o.op = some (g, args)) (hg : goCall P g = true) (k : ACalls P g args h K) : stepA P o s h K := by
  unfold callOf at e
  split at e
  · rename_i f as ts hop
    have hn : evalOp P h s o.op = none := by rw [hop]; rfl
    unfold stepA
    rw [hn]
    simp only [hop]
    unfold callA
    simp only []
    split at e
    · rename_i g' first cap hf
      simp only [Option.map_eq_some_iff, Prod.mk.injEq] at e
      obtain ⟨vs, hvs, rfl, rfl⟩ := e
      rw [hf]
      simp only [hvs]
      exact .inl ⟨hg, k⟩
    · cases e
  · cases e
theorem stepA_ext {o : Oper} {g : FuncId} {args : Array Value} {x : Ex} {v : Value} {K : Value → AHeap → Prop} (e : callOf s h o.op = some (g, args)) (hx : ExRow P g x) (hv : exV h x args.toList = some v) (k : K v h) : stepA P o s h K := by
  unfold callOf at e
  split at e
  · rename_i f as ts hop
    have hn : evalOp P h s o.op = none := by rw [hop]; rfl
    unfold stepA
    rw [hn]
    simp only [hop]
    unfold callA
    simp only []
    split at e
    · rename_i g' first cap hf
      simp only [Option.map_eq_some_iff, Prod.mk.injEq] at e
      obtain ⟨vs, hvs, rfl, rfl⟩ := e
      rw [hf]
      simp only [hvs]
      exact .inr ⟨x, v, hx, hv, k⟩
    · cases e
  · cases e

/-- The operations ahead of a call, and the call. -/
theorem awpL_call {Qn : St → AHeap → Prop} {l : List Oper} (n : Nat) {o : Oper} {g : FuncId} {args : Array Value} (e : runL P ops (l.take n) s h = some (s2, h2)) (ho : l[n]? = some o) (hd : dstOk s2 o.dst = true) (hgd : guardA ops s2 o.guard = some true)
    (ec : callOf s2 h2 o.op = some (g, args)) (hg : goCall P g = true) (k : ACalls P g args h2 fun v h' => awpL P ops Qn (l.drop (n + 1)) (putO s2 o.dst v) h') : awpL P ops Qn l s h := by
  have hl : l = l.take n ++ o :: l.drop (n + 1) := by
    obtain ⟨hlt, he⟩ := List.getElem?_eq_some_iff.1 ho
    rw [← he, ← List.drop_eq_getElem_cons hlt, List.take_append_drop]
  rw [hl]
  refine awpL_of_run _ _ e ⟨hd, ?_⟩
  rw [hgd]
  exact stepA_call ec hg k

/-- The rest of a region. -/
theorem awpL_rest {Qn : St → AHeap → Prop} {l : List Oper} (e : runL P ops l s h = some (s2, h2)) (k : Qn s2 h2) : awpL P ops Qn l s h := by
  have := awpL_of_run (Q := Qn) l [] e k
  rwa [List.append_nil] at this

/-! ### The same, where the order is drawn -/
def stillB (P : Program) (ops : Array Oper) (h : AHeap) : List (Nat × Ent) → List Nat → Prop := still P ops h

noncomputable def runD (P : Program) (ops : Array Oper) : List PItem → List (Nat × Ent) → St → AHeap → Option (St × AHeap × List (Nat × Ent))
  | [], rc, s, h => some (s, h, rc)
  | .n i ts :: l, rc, s, h => match ops[i]? with
    | none => none
    | some o => if dstOk s o.dst = true then
        match guardA ops (s.only ts) o.guard with
        | some false => runD P ops l ((i, .skip (s.only ts)) :: rc) (putO s o.dst undef) h
        | some true => match evalR P h (s.only ts) o.op with
          | some v => runD P ops l ((i, .r (s.only ts) v) :: rc) (putO s o.dst v) h
          | none => match evalA P h.next h.base (s.only ts) o.op with
            | some (v, ob) => runD P ops l ((i, .a (s.only ts) v h.next ob) :: rc) (putO s o.dst v) (h.push ob)
            | none => none
        | none => none
      else none
  | .w _ _ _ :: _, _, _, _ => none

theorem awpD_of_run {Qn : St → AHeap → Prop} : ∀ (l l2 : List PItem) {rc rc' : List (Nat × Ent)} {s s' : St} {h h' : AHeap}, runD P ops l rc s h = some (s', h', rc') → awpD P ops Qn l2 rc' s' h' → awpD P ops Qn (l ++ l2) rc s h
  | [], l2, rc, rc', s, s', h, h', e, k => by
    simp only [runD, Option.some.injEq, Prod.mk.injEq] at e
    obtain ⟨rfl, rfl, rfl⟩ := e
    exact k
  | .w _ _ _ :: l, l2, rc, rc', s, s', h, h', e, k => by cases e
  | .n i ts :: l, l2, rc, rc', s, s', h, h', e, k => by
    simp only [runD] at e
    show awpD P ops Qn (.n i ts :: (l ++ l2)) rc s h
    simp only [awpD]
    split at e
    · cases e
    · rename_i o ho
      rw [ho]
      split at e
      · rename_i hd
        refine ⟨hd, ?_⟩
        split at e
        · rename_i hg
          rw [hg]
          exact awpD_of_run l l2 e k
        · rename_i hg
          rw [hg]
          simp only []
          split at e
          · rename_i v hv
            rw [hv]
            exact awpD_of_run l l2 e k
          · rename_i hv
            rw [hv]
            simp only []
            split at e
            · rename_i v ob hv2
              rw [hv2]
              exact awpD_of_run l l2 e k
            · cases e
        · cases e
      · cases e

/-- A drawn region that writes nothing. -/
theorem AWP.sd (hmix : P.follows .mixedOrders = true) (items : List PItem) (hp : planOk ops items = true) (ts : List Nat) (e : (runD P ops items [] s h).map (fun p => (p.1.only ts, p.2.1)) = some (s2, h2)) (k : AWP P y Q s2 h2) :
    AWP P (.seq (.region id ops true) y) Q s h := by
  simp only [Option.map_eq_some_iff, Prod.mk.injEq] at e
  obtain ⟨⟨s1, h1, rc⟩, e1, rfl, rfl⟩ := e
  refine AWP.seq (AWP.draw hmix items hp ?_)
  have := awpD_of_run (Qn := fun s h => AWP P y Q s h) items [] e1 (AWP.only ts k)
  rw [List.append_nil] at this
  exact this

theorem AWP.d (hmix : P.follows .mixedOrders = true) (items : List PItem) (hp : planOk ops items = true) (ts : List Nat) (e : (runD P ops items [] s h).map (fun p => (p.1.only ts, p.2.1)) = some (s2, h2)) (k : ∀ s', s'.only ts = s2 → Q .normal s' h2) :
    AWP P (.region id ops true) Q s h := by
  simp only [Option.map_eq_some_iff, Prod.mk.injEq] at e
  obtain ⟨⟨s1, h1, rc⟩, e1, e2, rfl⟩ := e
  refine AWP.draw hmix items hp ?_
  have := awpD_of_run (Qn := fun s h => Q .normal s h) items [] e1 (k s1 e2)
  rw [List.append_nil] at this
  exact this

/-- A drawn region that writes, or calls. -/
theorem AWP.sw (hmix : P.follows .mixedOrders = true) (items : List PItem) (hp : planOk ops items = true) (k : awpD P ops (fun s' h' => AWP P y Q s' h') items [] s h) : AWP P (.seq (.region id ops true) y) Q s h :=
  AWP.seq (AWP.draw hmix items hp k)

/-- Up to a writing. -/
theorem awpD_write {Qn : St → AHeap → Prop} {l : List PItem} {rc rc2 : List (Nat × Ent)} (n i : Nat) (ts rs : List Nat) {o : Oper} {v : Value} {h3 : AHeap} (e : runD P ops (l.take n) rc s h = some (s2, h2, rc2)) (hl : l[n]? = some (.w i ts rs)) (ho : ops[i]? = some o) (hd : dstOk s2 o.dst = true)
    (hgd : guardA ops (s2.only ts) o.guard = some true) (ew : evalOp P h2 (s2.only ts) o.op = some (v, h3)) (hs : still P ops h3 rc2 rs) (k : awpD P ops Qn (l.drop (n + 1)) ((i, .w v) :: rc2) (putO s2 o.dst v) h3) : awpD P ops Qn l rc s h := by
  have hl2 : l = l.take n ++ .w i ts rs :: l.drop (n + 1) := by
    obtain ⟨hlt, he⟩ := List.getElem?_eq_some_iff.1 hl
    rw [← he, ← List.drop_eq_getElem_cons hlt, List.take_append_drop]
  rw [hl2]
  refine awpD_of_run _ _ e ?_
  simp only [awpD]
  rw [ho]
  refine ⟨hd, ?_⟩
  rw [hgd]
  show stepA P o (s2.only ts) h2 _
  unfold stepA
  rw [ew]
  exact ⟨hs, k⟩

/-- Up to a call. -/
theorem awpD_call {Qn : St → AHeap → Prop} {l : List PItem} {rc rc2 : List (Nat × Ent)} (n i : Nat) (ts rs : List Nat) {o : Oper} {g : FuncId} {args : Array Value} (e : runD P ops (l.take n) rc s h = some (s2, h2, rc2)) (hl : l[n]? = some (.w i ts rs)) (ho : ops[i]? = some o) (hd : dstOk s2 o.dst = true)
    (hgd : guardA ops (s2.only ts) o.guard = some true) (ec : callOf (s2.only ts) h2 o.op = some (g, args)) (hg : goCall P g = true)
    (k : ACalls P g args h2 fun v h' => still P ops h' rc2 rs ∧ awpD P ops Qn (l.drop (n + 1)) ((i, .w v) :: rc2) (putO s2 o.dst v) h') : awpD P ops Qn l rc s h := by
  have hl2 : l = l.take n ++ .w i ts rs :: l.drop (n + 1) := by
    obtain ⟨hlt, he⟩ := List.getElem?_eq_some_iff.1 hl
    rw [← he, ← List.drop_eq_getElem_cons hlt, List.take_append_drop]
  rw [hl2]
  refine awpD_of_run _ _ e ?_
  simp only [awpD]
  rw [ho]
  refine ⟨hd, ?_⟩
  rw [hgd]
  exact stepA_call ec hg k

/-- A writing that isn't asked for. -/
theorem awpD_skip {Qn : St → AHeap → Prop} {l : List PItem} {rc rc2 : List (Nat × Ent)} (n i : Nat) (ts rs : List Nat) {o : Oper} (e : runD P ops (l.take n) rc s h = some (s2, h2, rc2)) (hl : l[n]? = some (.w i ts rs)) (ho : ops[i]? = some o) (hd : dstOk s2 o.dst = true)
    (hgd : guardA ops (s2.only ts) o.guard = some false) (k : awpD P ops Qn (l.drop (n + 1)) ((i, .skip (s2.only ts)) :: rc2) (putO s2 o.dst undef) h2) : awpD P ops Qn l rc s h := by
  have hl2 : l = l.take n ++ .w i ts rs :: l.drop (n + 1) := by
    obtain ⟨hlt, he⟩ := List.getElem?_eq_some_iff.1 hl
    rw [← he, ← List.drop_eq_getElem_cons hlt, List.take_append_drop]
  rw [hl2]
  refine awpD_of_run _ _ e ?_
  simp only [awpD]
  rw [ho]
  refine ⟨hd, ?_⟩
  rw [hgd]
  exact k

/-- The rest of a drawn region. -/
theorem awpD_rest {Qn : St → AHeap → Prop} {l : List PItem} {rc rc2 : List (Nat × Ent)} (e : runD P ops l rc s h = some (s2, h2, rc2)) (k : Qn s2 h2) : awpD P ops Qn l rc s h := by
  have := awpD_of_run (Qn := Qn) l [] e k
  rwa [List.append_nil] at this

end

/-! ### What simp goes by: step by step -/
noncomputable def stepR (P : Program) (ops : Array Oper) (o : Oper) (s : St) (h : AHeap) : Option (St × AHeap) :=
  if dstOk s o.dst = true then
    match guardA ops s o.guard with
    | some true => (evalOp P h s o.op).map fun q => (putO s o.dst q.1, q.2)
    | some false => some (putO s o.dst undef, h)
    | none => none
  else none

theorem runL_nil {P : Program} {ops : Array Oper} {s : St} {h : AHeap} : runL P ops [] s h = some (s, h) := rfl
theorem runL_cons {P : Program} {ops : Array Oper} {o : Oper} {l : List Oper} {n : Nat} {L : List (Nat × Value)} {h : AHeap} :
    runL P ops (o :: l) ⟨n, L⟩ h = (stepR P ops o ⟨n, L⟩ h).bind fun p => runL P ops l p.1 p.2 := by
  unfold stepR
  rw [runL]
  split
  · cases guardA ops ⟨n, L⟩ o.guard with
    | none => rfl
    | some b => cases b with
      | false => rfl
      | true => cases evalOp P h ⟨n, L⟩ o.op <;> rfl
  · rfl

noncomputable def stepD (P : Program) (ops : Array Oper) (i : Nat) (ts : List Nat) (rc : List (Nat × Ent)) (s : St) (h : AHeap) : Option (St × AHeap × List (Nat × Ent)) :=
  match ops[i]? with
  | none => none
  | some o => if dstOk s o.dst = true then
      match guardA ops (s.only ts) o.guard with
      | some false => some (putO s o.dst undef, h, (i, .skip (s.only ts)) :: rc)
      | some true => match evalR P h (s.only ts) o.op with
        | some v => some (putO s o.dst v, h, (i, .r (s.only ts) v) :: rc)
        | none => (evalA P h.next h.base (s.only ts) o.op).map fun q => (putO s o.dst q.1, h.push q.2, (i, .a (s.only ts) q.1 h.next q.2) :: rc)
      | none => none
    else none

theorem runD_nil {P : Program} {ops : Array Oper} {rc : List (Nat × Ent)} {s : St} {h : AHeap} : runD P ops [] rc s h = some (s, h, rc) := rfl
theorem runD_cons {P : Program} {ops : Array Oper} {i : Nat} {ts : List Nat} {l : List PItem} {rc : List (Nat × Ent)} {n : Nat} {L : List (Nat × Value)} {h : AHeap} :
    runD P ops (.n i ts :: l) rc ⟨n, L⟩ h = (stepD P ops i ts rc ⟨n, L⟩ h).bind fun p => runD P ops l p.2.2 p.1 p.2.1 := by
  unfold stepD
  rw [runD]
  cases ops[i]? with
  | none => rfl
  | some o =>
    simp only []
    split
    · cases guardA ops (St.only ⟨n, L⟩ ts) o.guard with
      | none => rfl
      | some b => cases b with
        | false => rfl
        | true =>
          simp only []
          cases evalR P h (St.only ⟨n, L⟩ ts) o.op with
          | some v => rfl
          | none =>
            simp only []
            cases evalA P h.next h.base (St.only ⟨n, L⟩ ts) o.op <;> rfl
    · rfl

theorem convR_int {P : Program} {h : AHeap} {s d : TypeId} {k : IntKind} {n : Int} : convR P h s d (.int k n) = convP P s d (.int k n) := rfl
theorem convR_string {P : Program} {h : AHeap} {s d : TypeId} {b : ByteArray} : convR P h s d (.string b) = convP P s d (.string b) := rfl
theorem convR_slice {P : Program} {h : AHeap} {s d : TypeId} {a : Option Addr} {n c : Nat} : convR P h s d (.slice a n c) = match strR P h s d (.slice a n c) with
    | some u => some u
    | none => convS P h s d (.slice a n c) := rfl

attribute [go_sem] runK runL_nil runL_cons runD_nil runD_cons stepR stepD guardA dstOk evalOp evalR evalA evalW ev evs evParts evO constOk constCell putO St.put enterL St.only onlyL St.get lk callOf Option.map_some Option.map_none Option.bind_some Option.bind_none binA eqA unA convP convR_int convR_string convR_slice builtinR extractP nilCheckP isShift arithI cmpI shiftI boxA allocA List.all_cons List.all_nil List.take_zero List.take_succ_cons List.drop_zero List.drop_succ_cons List.getElem?_cons_zero List.getElem?_cons_succ List.getElem?_toArray undef
end Ab
end

section
namespace Ab
open Go
set_option autoImplicit false
set_option linter.unusedVariables false
set_option linter.unusedSimpArgs false

/-! ### The heap's words -/
section
variable (h : AHeap) (o : AObj) (i j : Nat)
theorem push_next : (h.push o).next = h.next + 1 := rfl
theorem push_base : (h.push o).base = h.base := rfl
theorem set_next : (h.set i o).next = h.next := rfl
theorem set_base : (h.set i o).base = h.base := rfl
theorem kill_next : (h.kill i).next = h.next := rfl
theorem kill_base : (h.kill i).base = h.base := rfl
theorem push_self : (h.push o).obj h.next = some o := by simp [AHeap.push]
theorem push_ne (hi : i ≠ h.next) : (h.push o).obj i = h.obj i := by simp [AHeap.push, hi]
theorem push_old (hi : i < h.next) : (h.push o).obj i = h.obj i := push_ne h o i (by omega)
theorem set_self : (h.set i o).obj i = some o := by simp [AHeap.set]
theorem set_ne (hi : j ≠ i) : (h.set i o).obj j = h.obj j := by simp [AHeap.set, hi]
theorem kill_ne (hi : j ≠ i) : (h.kill i).obj j = h.obj j := by simp [AHeap.kill, hi]
end
attribute [go_sem] push_next push_base set_next set_base kill_next kill_base push_self set_self

/-- Nothing that was there has turned. -/
structure Ext (h h' : AHeap) : Prop where
  next : h.next ≤ h'.next
  base : h'.base = h.base
  old : ∀ i, i < h.next → h'.obj i = h.obj i

theorem Ext.refl (h : AHeap) : Ext h h := ⟨Nat.le_refl _, rfl, fun _ _ => rfl⟩
theorem Ext.trans {a b c : AHeap} (h : Ext a b) (k : Ext b c) : Ext a c :=
  ⟨Nat.le_trans h.next k.next, k.base.trans h.base, fun i hi => (k.old i (Nat.lt_of_lt_of_le hi h.next)).trans (h.old i hi)⟩
theorem Ext.push {a b : AHeap} (h : Ext a b) (o : AObj) : Ext a (b.push o) :=
  h.trans ⟨Nat.le_succ _, rfl, fun i hi => push_old b o i hi⟩
theorem Ext.set {a b : AHeap} (h : Ext a b) {i : Nat} (hi : a.next ≤ i) (o : AObj) : Ext a (b.set i o) :=
  ⟨h.next, h.base, fun j hj => by rw [set_ne b o i j (by omega)]; exact h.old j hj⟩
theorem Ext.kill {a b : AHeap} (h : Ext a b) {i : Nat} (hi : a.next ≤ i) : Ext a (b.kill i) :=
  ⟨h.next, h.base, fun j hj => by rw [kill_ne b i j (by omega)]; exact h.old j hj⟩

/-- What every heap of a run is. -/
theorem ACalls.wf {P : Program} {f : FuncId} {args : Array Value} {h : AHeap} {Q : Value → AHeap → Prop} (k : h.base ≤ h.next → (∀ i, h.next ≤ i → h.obj i = none) → ACalls P f args h Q) : ACalls P f args h Q :=
  fun M w cargs r hv => k r.ble r.bnd M w cargs r hv

theorem okCell_B (u : UInt8) : okCell (B u) = true := rfl
theorem okCell_int (k : IntKind) (n : Int) : okCell (.int k n) = true := rfl
theorem okCell_bool (b : Bool) : okCell (.bool b) = true := rfl
theorem okCell_string (s : ByteArray) : okCell (.string s) = true := rfl
theorem okCell_slice (a : Option Addr) (l c : Nat) : okCell (.slice a l c) = true := rfl
theorem okCell_pointer (a : Option Addr) : okCell (.pointer a) = true := rfl
theorem okCell_map (a : Option Nat) : okCell (.map a) = true := rfl
theorem all_okCell_map {α : Type} (f : α → Value) (hf : ∀ x, okCell (f x) = true) (l : List α) : (l.map f).all okCell = true := by
  rw [List.all_eq_true]; intro v hv; obtain ⟨b, _, rfl⟩ := List.mem_map.1 hv; exact hf b
theorem all_okCell_B (l : List UInt8) : (l.map B).all okCell = true := all_okCell_map B okCell_B l
attribute [go_sem] okCell_B okCell_int okCell_bool okCell_string okCell_slice okCell_pointer okCell_map all_okCell_B Value.known Value.cells

theorem known_int (k : IntKind) (n : Int) : (Value.int k n).known = true := rfl

/-- In which object a value points. -/
def blkOf : Value → Option Nat
  | .slice (some ⟨i, _, _⟩) _ _ => some i
  | .pointer (some ⟨i, _, _⟩) => some i
  | _ => none

/-! ### Bytes in memory -/
/-- A slice that reads as bytes. -/
def Bytes (h : AHeap) (v : Value) (bs : List UInt8) : Prop :=
  (v = .slice none 0 0 ∧ bs = []) ∨ ∃ i off cap c e sz ti ro, v = .slice (some ⟨i, off, none⟩) bs.length cap ∧ bs.length ≤ cap ∧ i < h.next ∧ h.obj i = some (.row c e sz ti ro) ∧ (ti = true ∨ sz = 1) ∧
    off + bs.length ≤ c.length ∧ (c.drop off).take bs.length = bs.map B

/-- The same in memory from number n on, that may be written. -/
def OBytes (e : TypeId) (n : Nat) (h : AHeap) (v : Value) (bs : List UInt8) : Prop :=
  (v = .slice none 0 0 ∧ bs = []) ∨ ∃ i off cap c ti, v = .slice (some ⟨i, off, none⟩) bs.length cap ∧ bs.length ≤ cap ∧ n ≤ i ∧ i < h.next ∧ h.obj i = some (.row c e 1 ti false) ∧
    off + bs.length ≤ c.length ∧ (c.drop off).take bs.length = bs.map B

theorem OBytes.bytes {e : TypeId} {n : Nat} {h : AHeap} {v : Value} {bs : List UInt8} (k : OBytes e n h v bs) : Bytes h v bs := by
  rcases k with k | ⟨i, off, cap, c, ti, h1, h2, _, h4, h5, h6, h7⟩
  · exact .inl k
  · exact .inr ⟨i, off, cap, c, e, 1, ti, false, h1, h2, h4, h5, .inr rfl, h6, h7⟩

theorem OBytes.lower {e : TypeId} {n m : Nat} {h : AHeap} {v : Value} {bs : List UInt8} (k : OBytes e n h v bs) (hm : m ≤ n) : OBytes e m h v bs := by
  rcases k with k | ⟨i, off, cap, c, ti, h1, h2, h3, h4, h5, h6, h7⟩
  · exact .inl k
  · exact .inr ⟨i, off, cap, c, ti, h1, h2, Nat.le_trans hm h3, h4, h5, h6, h7⟩

theorem Bytes.ext {h h' : AHeap} {v : Value} {bs : List UInt8} (k : Bytes h v bs) (x : Ext h h') : Bytes h' v bs := by
  rcases k with k | ⟨i, off, cap, c, e, sz, ti, ro, h1, h2, h3, h4, h5⟩
  · exact .inl k
  · exact .inr ⟨i, off, cap, c, e, sz, ti, ro, h1, h2, Nat.lt_of_lt_of_le h3 x.next, (x.old i h3).trans h4, h5⟩

theorem OBytes.ext {e : TypeId} {n : Nat} {h h' : AHeap} {v : Value} {bs : List UInt8} (k : OBytes e n h v bs) (x : Ext h h') : OBytes e n h' v bs := by
  rcases k with k | ⟨i, off, cap, c, ti, h1, h2, h3, h4, h5, h6⟩
  · exact .inl k
  · exact .inr ⟨i, off, cap, c, ti, h1, h2, h3, Nat.lt_of_lt_of_le h4 x.next, (x.old i h4).trans h5, h6⟩

theorem Bytes.nil (h : AHeap) : Bytes h (.slice none 0 0) [] := .inl ⟨rfl, rfl⟩
theorem OBytes.nil (e : TypeId) (n : Nat) (h : AHeap) : OBytes e n h (.slice none 0 0) [] := .inl ⟨rfl, rfl⟩

/-- A slice's value, however it lies. -/
theorem Bytes.val {h : AHeap} {v : Value} {bs : List UInt8} (k : Bytes h v bs) : ∃ a cap, v = .slice a bs.length cap := by
  rcases k with ⟨rfl, rfl⟩ | ⟨i, off, cap, c, e, sz, ti, ro, rfl, _⟩
  · exact ⟨none, 0, rfl⟩
  · exact ⟨_, _, rfl⟩

theorem Bytes.src {h : AHeap} {v : Value} {bs : List UInt8} (k : Bytes h v bs) : srcCells h 1 v = some (bs.length, bs.map B) := by
  rcases k with ⟨rfl, rfl⟩ | ⟨i, off, cap, c, e, sz, ti, ro, rfl, h2, h3, h4, h5, h6, h7⟩
  · rfl
  · simp [srcCells, h4, h6, h7]

/-- A byte that is read. -/
theorem Bytes.get {P : Program} {h : AHeap} {v : Value} {bs : List UInt8} (k : Bytes h v bs) {t e : TypeId} (ht : P.underlying t = some (.slice e)) (he : aggB P e = some false) (hs : tsz P e = some 1) {j : Nat} (hj : j < bs.length) {kd : IntKind} :
    ∃ p, indexAddrP P t v (.int kd j) = some p ∧ loadR P h e p = some (B bs[j]) := by
  rcases k with ⟨rfl, rfl⟩ | ⟨i, off, cap, c, e', sz, ti, ro, rfl, h2, h3, h4, h5, h6, h7⟩
  · simp at hj
  · refine ⟨.pointer (some ⟨i, off + j, none⟩), ?_, ?_⟩
    · simp [indexAddrP, ht, hs, hj]
    · simp only [loadR, h4, he]
      have e1 : ((c.drop off).take bs.length)[j]? = some (B bs[j]) := by rw [h7]; simp [hj]
      rw [List.getElem?_take, if_pos hj, List.getElem?_drop] at e1
      exact e1

/-- A piece. -/
theorem Bytes.slice {P : Program} {h : AHeap} {v : Value} {bs : List UInt8} (k : Bytes h v bs) {t e : TypeId} (ht : P.underlying t = some (.slice e)) (hs : tsz P e = some 1) {lo hi : Nat} (h1 : lo ≤ hi) (h2 : hi ≤ bs.length)
    {l u : Option Value} (hl : (l = none ∧ lo = 0) ∨ ∃ kd, l = some (.int kd lo)) (hu : (u = none ∧ hi = bs.length) ∨ ∃ kd, u = some (.int kd hi)) :
    ∃ v', sliceR P h t v l u none = some v' ∧ Bytes h v' ((bs.take hi).drop lo) ∧ ∀ j, blkOf v' = some j → blkOf v = some j := by
  have hlen : ((bs.take hi).drop lo).length = hi - lo := by simp; omega
  rcases k with ⟨rfl, rfl⟩ | ⟨i, off, cap, c, e', sz, ti, ro, rfl, h3, h4, h5, h6, h7, h8⟩
  · simp at h2
    subst h2
    obtain rfl : lo = 0 := by omega
    refine ⟨.slice none 0 0, ?_, .inl ⟨rfl, by simp⟩, fun j hj => hj⟩
    rcases hl with ⟨rfl, _⟩ | ⟨kd, rfl⟩ <;> rcases hu with ⟨rfl, _⟩ | ⟨kd', rfl⟩ <;> simp [sliceR, ht, hs, bnds, sb]
  · have hb : bnds bs.length cap l u none = some (lo, hi, cap) := by
      have hc : hi ≤ cap := by omega
      rcases hl with ⟨rfl, hl⟩ | ⟨kd, rfl⟩ <;> rcases hu with ⟨rfl, hu⟩ | ⟨kd', rfl⟩ <;> first
        | (simp [bnds, sb, hc, h1]; done)
        | (simp [bnds, sb, hc, h1]; omega)
        | (subst hu; simp [bnds, sb, h1]; done)
        | (subst hu; simp [bnds, sb, h1]; omega)
    refine ⟨_, by simp only [sliceR, ht, hs, h5, hb]; rw [if_pos (by rcases h6 with h | h <;> simp [h])], ?_, fun j hj => by split at hj <;> exact hj⟩
    right
    split
    · rename_i hc
      have h0 : hi - lo = 0 := by omega
      refine ⟨i, off, 0, c, e', sz, ti, ro, by rw [hlen, h0], by rw [hlen, h0]; exact Nat.le_refl _, h4, h5, h6, by rw [hlen]; omega, ?_⟩
      have : (bs.take hi).drop lo = [] := by rw [← List.length_eq_zero_iff]; omega
      simp [this]
    · refine ⟨i, off + lo * 1, cap - lo, c, e', sz, ti, ro, by rw [hlen], by rw [hlen]; omega, h4, h5, h6, by rw [hlen]; omega, ?_⟩
      rw [hlen, Nat.mul_one, ← List.drop_drop]
      have e1 : (c.drop off).take hi = (bs.take hi).map B := by
        have := congrArg (List.take hi) h8
        rw [List.take_take, Nat.min_eq_left h2, ← List.map_take] at this
        exact this
      have e2 : ((c.drop off).drop lo).take (hi - lo) = ((c.drop off).take hi).drop lo := by rw [List.drop_take]
      rw [e2, e1, List.map_drop]
end Ab
end

section
namespace Ab
open Go
set_option autoImplicit false
set_option linter.unusedVariables false
set_option linter.unusedSimpArgs false

/-! ### Slices that are one's own, and full -/
/-- Below number lo nothing has turned. -/
structure Fr (lo : Nat) (h h' : AHeap) : Prop where
  next : h.next ≤ h'.next
  base : h'.base = h.base
  old : ∀ i, i < lo → h'.obj i = h.obj i

theorem Fr.refl (lo : Nat) (h : AHeap) : Fr lo h h := ⟨Nat.le_refl _, rfl, fun _ _ => rfl⟩
theorem Fr.trans {lo : Nat} {a b c : AHeap} (h : Fr lo a b) (k : Fr lo b c) : Fr lo a c :=
  ⟨Nat.le_trans h.next k.next, k.base.trans h.base, fun i hi => (k.old i hi).trans (h.old i hi)⟩
theorem Fr.ext {a b : AHeap} (h : Fr a.next a b) : Ext a b := ⟨h.next, h.base, h.old⟩
theorem Ext.fr {a b : AHeap} {lo : Nat} (h : Ext a b) (hlo : lo ≤ a.next) : Fr lo a b := ⟨h.next, h.base, fun i hi => h.old i (Nat.lt_of_lt_of_le hi hlo)⟩

/-- A slice of n elements, whose cells are cs, that lies from number lo on, has no room, and may be written. -/
def GS (e : TypeId) (sz lo : Nat) (h : AHeap) (v : Value) (n : Nat) (cs : List Value) : Prop :=
  (v = .slice none 0 0 ∧ n = 0 ∧ cs = []) ∨ ∃ i off c ti, v = .slice (some ⟨i, off, none⟩) n n ∧ lo ≤ i ∧ i < h.next ∧ h.obj i = some (.row c e sz ti false) ∧ off + n * sz ≤ c.length ∧ (c.drop off).take (n * sz) = cs

theorem GS.nil (e : TypeId) (sz lo : Nat) (h : AHeap) : GS e sz lo h (.slice none 0 0) 0 [] := .inl ⟨rfl, rfl, rfl⟩

theorem GS.length {e : TypeId} {sz lo n : Nat} {h : AHeap} {v : Value} {cs : List Value} (k : GS e sz lo h v n cs) : cs.length = n * sz := by
  rcases k with ⟨rfl, rfl, rfl⟩ | ⟨i, off, c, ti, rfl, h1, h2, h3, h4, rfl⟩
  · simp
  · simp; omega

theorem GS.src {e : TypeId} {sz lo n : Nat} {h : AHeap} {v : Value} {cs : List Value} (k : GS e sz lo h v n cs) : srcCells h sz v = some (n, cs) := by
  rcases k with ⟨rfl, rfl, rfl⟩ | ⟨i, off, c, ti, rfl, h1, h2, h3, h4, rfl⟩
  · rfl
  · simp [srcCells, h3, h4]

/-- It stays, where its block does. -/
theorem GS.keep {e : TypeId} {sz lo n : Nat} {h h' : AHeap} {v : Value} {cs : List Value} (k : GS e sz lo h v n cs) (hn : h.next ≤ h'.next) (hk : ∀ j, j < h.next → blkOf v = some j → h'.obj j = h.obj j) : GS e sz lo h' v n cs := by
  rcases k with k | ⟨i, off, c, ti, rfl, h1, h2, h3, h4, h5⟩
  · exact .inl k
  · exact .inr ⟨i, off, c, ti, rfl, h1, Nat.lt_of_lt_of_le h2 hn, (hk i h2 rfl).trans h3, h4, h5⟩

theorem GS.ext {e : TypeId} {sz lo n : Nat} {h h' : AHeap} {v : Value} {cs : List Value} (k : GS e sz lo h v n cs) (x : Ext h h') : GS e sz lo h' v n cs :=
  k.keep x.next fun j hj _ => x.old j hj

theorem GS.lower {e : TypeId} {sz lo lo' n : Nat} {h : AHeap} {v : Value} {cs : List Value} (k : GS e sz lo h v n cs) (hl : lo' ≤ lo) : GS e sz lo' h v n cs := by
  rcases k with k | ⟨i, off, c, ti, rfl, h1, h2, h3, h4, h5⟩
  · exact .inl k
  · exact .inr ⟨i, off, c, ti, rfl, Nat.le_trans hl h1, h2, h3, h4, h5⟩

theorem GS.blk {e : TypeId} {sz lo n : Nat} {h : AHeap} {v : Value} {cs : List Value} (k : GS e sz lo h v n cs) : ∀ j, blkOf v = some j → lo ≤ j ∧ j < h.next := by
  rcases k with ⟨rfl, _⟩ | ⟨i, off, c, ti, rfl, h1, h2, _⟩
  · intro j hj; cases hj
  · intro j hj; cases hj; exact ⟨h1, h2⟩

/-- What is put behind. -/
theorem GS.app {P : Program} {t e xt : TypeId} {sz by_ lo n m : Nat} {z : Value} {h : AHeap} {v xv : Value} {cs xs : List Value} (ht : P.underlying t = some (.slice e)) (hs : tsz P e = some sz) (hb : tby P e = some by_) (hz : tzero P e = some z)
    (hn : noInt P xt = true) (h0 : 0 < sz) (h1 : 0 < by_) (h2 : z.cells.size = sz) (k : GS e sz lo h v n cs) (hx : srcCells h sz xv = some (m, xs)) (hl : xs.length = m * sz) (hok : xs.all okCell = true) (hc : (n + m) * by_ ≤ 140737488355328)
    (hlo : h.base ≤ lo) (hlo2 : lo ≤ h.next) :
    ∃ v' h', appendW P h t xt v xv = some (v', h') ∧ GS e sz lo h' v' (n + m) (cs ++ xs) ∧ Fr lo h h' ∧ (∀ j, j < h.next → blkOf v ≠ some j → h'.obj j = h.obj j) ∧ (∀ j, blkOf v' = some j → blkOf v = some j ∨ h.next ≤ j) := by
  have hcond : noInt P xt = true ∧ 0 < sz ∧ 0 < by_ ∧ z.cells.size = sz ∧ xs.all okCell = true := ⟨hn, h0, h1, h2, hok⟩
  rcases k with ⟨rfl, rfl, rfl⟩ | ⟨i, off, c, ti, rfl, k1, k2, k3, k4, rfl⟩
  · simp only [appendW, ht, hs, hb, hz, hx]
    rw [if_pos hcond]
    by_cases hm : m = 0
    · subst hm
      obtain rfl : xs = [] := by rw [← List.length_eq_zero_iff]; omega
      rw [if_pos rfl]
      exact ⟨_, _, rfl, .inl ⟨rfl, rfl, rfl⟩, .refl _ _, fun _ _ _ => rfl, fun j hj => by cases hj⟩
    · rw [if_neg hm, if_pos (by simpa using hc)]
      refine ⟨_, _, rfl, .inr ⟨h.next, 0, xs, false, by simp, hlo2, Nat.lt_succ_self _, push_self _ _, by simp [hl], by simp [← hl]⟩, ⟨Nat.le_succ _, rfl, fun j hj => push_old _ _ _ (by omega)⟩, fun j hj _ => push_old _ _ _ hj, fun j hj => ?_⟩
      cases hj; exact .inr (Nat.le_refl _)
  · simp only [appendW, ht, hs, hb, hz, hx]
    rw [if_pos hcond]
    by_cases hm : m = 0
    · subst hm
      obtain rfl : xs = [] := by rw [← List.length_eq_zero_iff]; omega
      rw [if_pos rfl]
      exact ⟨_, _, rfl, .inr ⟨i, off, c, ti, rfl, k1, k2, k3, k4, by simp⟩, .refl _ _, fun _ _ _ => rfl, fun j hj => .inl hj⟩
    · rw [if_neg hm, k3]
      simp only []
      rw [if_pos ⟨trivial, k4⟩, if_neg (by omega), if_pos hc]
      have hlen : ((c.drop off).take (n * sz)).length = n * sz := by simp; omega
      have hmul : (n + m) * sz = n * sz + m * sz := Nat.add_mul _ _ _
      by_cases hti : ti = true
      · rw [if_pos hti]
        refine ⟨_, _, rfl, .inr ⟨h.next, 0, _, false, rfl, hlo2, Nat.lt_succ_self _, push_self _ _, by simp only [List.length_append, hlen, hl]; omega, ?_⟩, ⟨Nat.le_succ _, rfl, fun j hj => push_old _ _ _ (by omega)⟩, fun j hj _ => push_old _ _ _ hj, fun j hj => ?_⟩
        · rw [List.drop_zero, List.take_of_length_le (by simp only [List.length_append, hlen, hl]; omega)]
        · cases hj; exact .inr (Nat.le_refl _)
      · rw [if_neg hti, if_pos ⟨trivial, by omega, trivial⟩]
        refine ⟨_, _, rfl, .inr ⟨h.next, 0, _, false, rfl, hlo2, Nat.lt_succ_self _, push_self _ _, by simp only [List.length_append, hlen, hl]; omega, ?_⟩, ⟨Nat.le_succ _, rfl, fun j hj => ?_⟩, fun j hj hne => ?_, fun j hj => ?_⟩
        · rw [List.drop_zero, List.take_of_length_le (by simp only [List.length_append, hlen, hl]; omega)]
        · rw [push_old _ _ _ (by rw [kill_next]; omega), kill_ne _ _ _ (by omega)]
        · rw [push_old _ _ _ (by rw [kill_next]; omega), kill_ne _ _ _ (by rintro rfl; exact hne rfl)]
        · cases hj; exact .inr (Nat.le_refl _)

/-- Bytes that are one's own, and full. -/
abbrev GB (e : TypeId) (lo : Nat) (h : AHeap) (v : Value) (bs : List UInt8) : Prop := GS e 1 lo h v bs.length (bs.map B)

theorem GS.bytes {e : TypeId} {lo : Nat} {h : AHeap} {v : Value} {bs : List UInt8} (k : GB e lo h v bs) : Bytes h v bs := by
  rcases k with ⟨rfl, h1, h2⟩ | ⟨i, off, c, ti, rfl, h1, h2, h3, h4, h5⟩
  · exact .inl ⟨rfl, by simpa using h1⟩
  · exact .inr ⟨i, off, _, c, e, 1, ti, false, rfl, Nat.le_refl _, h2, h3, .inr rfl, by omega, by rw [Nat.mul_one] at h5; exact h5⟩

theorem GB.app {P : Program} {t e xt : TypeId} {lo : Nat} {h : AHeap} {v xv : Value} {bs xs : List UInt8} (ht : P.underlying t = some (.slice e)) (hs : tsz P e = some 1) (hb : tby P e = some 1) (hz : tzero P e = some (.int .u8 0))
    (hn : noInt P xt = true) (k : GB e lo h v bs) (hx : srcCells h 1 xv = some (xs.length, xs.map B)) (hc : bs.length + xs.length ≤ 140737488355328) (hlo : h.base ≤ lo) (hlo2 : lo ≤ h.next) :
    ∃ v' h', appendW P h t xt v xv = some (v', h') ∧ GB e lo h' v' (bs ++ xs) ∧ Fr lo h h' ∧ (∀ j, j < h.next → blkOf v ≠ some j → h'.obj j = h.obj j) ∧ (∀ j, blkOf v' = some j → blkOf v = some j ∨ h.next ≤ j) := by
  have := GS.app ht hs hb hz hn (by omega) (by omega) (by rfl) k hx (by simp) (all_okCell_B xs) (by omega) hlo hlo2
  simpa [GB] using this

theorem Bytes.str {P : Program} {h : AHeap} {v : Value} {bs : List UInt8} {t e u : TypeId} (ht : P.underlying t = some (.slice e)) (he : P.underlying e = some (.int .u8)) (hu : P.underlying u = some .string) (k : Bytes h v bs) :
    strR P h t u v = some (.string ⟨bs.toArray⟩) := by
  rcases k with ⟨rfl, rfl⟩ | ⟨i, off, cap, c, e', sz, ti, ro, rfl, h2, h3, h4, h5, h6, h7⟩
  · simp only [strR, ht, hu, he]; rfl
  · simp only [strR, ht, hu, he, h4]
    rw [if_pos h6, h7, bytesOf_map]; rfl

theorem Bytes.len {P : Program} {h : AHeap} {v : Value} {bs : List UInt8} {t e : TypeId} (ht : P.underlying t = some (.slice e)) (k : Bytes h v bs) : lenE P h t v = some (.int .i64 bs.length) := by
  rcases k with ⟨rfl, rfl⟩ | ⟨i, off, cap, c, e', sz, ti, ro, rfl, h2, h3, h4, h5, h6, h7⟩
  · simp [lenE, ht]
  · simp [lenE, ht]

/-- A cell that is written. -/
theorem storeW_cell {P : Program} {t e : TypeId} {h : AHeap} {i off sz : Nat} {c : List Value} {ti : Bool} {v : Value} (hs : tsz P t = some 1) (ho : h.obj i = some (.row c e sz ti false)) (hoff : off < c.length) (hc : v.cells = #[v]) (hk : okCell v = true) (hk2 : v.known = true) :
    storeW P h t (.pointer (some ⟨i, off, none⟩)) v = some (h.set i (.row (c.set off v) e sz ti false)) := by
  simp only [storeW, ho, hs, hc]
  rw [if_pos ⟨rfl, hoff, by simpa using hk, hk2⟩]
  rfl

theorem wI64 {n : Int} (h1 : -9223372036854775808 ≤ n) (h2 : n ≤ 9223372036854775807) : IntKind.i64.wrap n = n := by
  rw [IntKind.wrap_i64]; omega
theorem wU64 {n : Int} (h1 : 0 ≤ n) (h2 : n ≤ 18446744073709551615) : IntKind.u64.wrap n = n := by
  rw [IntKind.wrap_u64]; omega
theorem wU8 {n : Int} (h1 : 0 ≤ n) (h2 : n ≤ 255) : IntKind.u8.wrap n = n := by
  rw [IntKind.wrap_u8]; omega

/-! ### Slices of anything, to be read -/
/-- A slice of n elements, whose cells are cs. -/
def Sl (sz : Nat) (h : AHeap) (v : Value) (n : Nat) (cs : List Value) : Prop :=
  (v = .slice none 0 0 ∧ n = 0 ∧ cs = []) ∨ ∃ i off cap c e sz' ti ro, v = .slice (some ⟨i, off, none⟩) n cap ∧ n ≤ cap ∧ i < h.next ∧ h.obj i = some (.row c e sz' ti ro) ∧ (ti = true ∨ sz' = sz) ∧ off + n * sz ≤ c.length ∧ (c.drop off).take (n * sz) = cs

theorem GS.sl {e : TypeId} {sz lo n : Nat} {h : AHeap} {v : Value} {cs : List Value} (k : GS e sz lo h v n cs) : Sl sz h v n cs := by
  rcases k with k | ⟨i, off, c, ti, rfl, h1, h2, h3, h4, h5⟩
  · exact .inl k
  · exact .inr ⟨i, off, n, c, e, sz, ti, false, rfl, Nat.le_refl _, h2, h3, .inr rfl, h4, h5⟩

theorem Bytes.sl {h : AHeap} {v : Value} {bs : List UInt8} (k : Bytes h v bs) : Sl 1 h v bs.length (bs.map B) := by
  rcases k with ⟨rfl, rfl⟩ | ⟨i, off, cap, c, e, sz, ti, ro, rfl, h2, h3, h4, h5, h6, h7⟩
  · exact .inl ⟨rfl, rfl, rfl⟩
  · exact .inr ⟨i, off, cap, c, e, sz, ti, ro, rfl, h2, h3, h4, h5, by omega, by simpa using h7⟩

theorem Sl.keep {sz n : Nat} {h h' : AHeap} {v : Value} {cs : List Value} (k : Sl sz h v n cs) (hn : h.next ≤ h'.next) (hk : ∀ j, j < h.next → blkOf v = some j → h'.obj j = h.obj j) : Sl sz h' v n cs := by
  rcases k with k | ⟨i, off, cap, c, e, sz', ti, ro, rfl, h1, h2, h3, h4, h5, h6⟩
  · exact .inl k
  · exact .inr ⟨i, off, cap, c, e, sz', ti, ro, rfl, h1, Nat.lt_of_lt_of_le h2 hn, (hk i h2 rfl).trans h3, h4, h5, h6⟩

theorem Sl.ext {sz n : Nat} {h h' : AHeap} {v : Value} {cs : List Value} (k : Sl sz h v n cs) (x : Ext h h') : Sl sz h' v n cs := k.keep x.next fun j hj _ => x.old j hj

theorem Bytes.keep {h h' : AHeap} {v : Value} {bs : List UInt8} (k : Bytes h v bs) (hn : h.next ≤ h'.next) (hk : ∀ j, j < h.next → blkOf v = some j → h'.obj j = h.obj j) : Bytes h' v bs := by
  rcases k with k | ⟨i, off, cap, c, e, sz, ti, ro, rfl, h1, h2, h3, h4, h5⟩
  · exact .inl k
  · exact .inr ⟨i, off, cap, c, e, sz, ti, ro, rfl, h1, Nat.lt_of_lt_of_le h2 hn, (hk i h2 rfl).trans h3, h4, h5⟩

theorem Sl.length {sz n : Nat} {h : AHeap} {v : Value} {cs : List Value} (k : Sl sz h v n cs) : cs.length = n * sz := by
  rcases k with ⟨rfl, rfl, rfl⟩ | ⟨i, off, cap, c, e, sz', ti, ro, rfl, h1, h2, h3, h4, h5, rfl⟩
  · simp
  · simp; omega

theorem Sl.src {sz n : Nat} {h : AHeap} {v : Value} {cs : List Value} (k : Sl sz h v n cs) : srcCells h sz v = some (n, cs) := by
  rcases k with ⟨rfl, rfl, rfl⟩ | ⟨i, off, cap, c, e, sz', ti, ro, rfl, h1, h2, h3, h4, h5, rfl⟩
  · rfl
  · simp [srcCells, h3, h5]

theorem Sl.len {P : Program} {sz n : Nat} {h : AHeap} {v : Value} {cs : List Value} {t e : TypeId} (ht : P.underlying t = some (.slice e)) (k : Sl sz h v n cs) : lenE P h t v = some (.int .i64 n) := by
  rcases k with ⟨rfl, rfl, rfl⟩ | ⟨i, off, cap, c, e', sz', ti, ro, rfl, h1, h2, h3, h4, h5, rfl⟩
  · simp [lenE, ht]
  · simp [lenE, ht]

theorem Sl.val {sz n : Nat} {h : AHeap} {v : Value} {cs : List Value} (k : Sl sz h v n cs) : ∃ a cap, v = .slice a n cap := by
  rcases k with ⟨rfl, rfl, rfl⟩ | ⟨i, off, cap, c, e', sz', ti, ro, rfl, h1, h2, h3, h4, h5, rfl⟩
  · exact ⟨_, _, rfl⟩
  · exact ⟨_, _, rfl⟩

/-- Where an element lies, and what is there. -/
theorem Sl.at {P : Program} {sz n : Nat} {h : AHeap} {v : Value} {cs : List Value} {t e : TypeId} (ht : P.underlying t = some (.slice e)) (hs : tsz P e = some sz) (k : Sl sz h v n cs) {j : Nat} (hj : j < n) {kd : IntKind} :
    ∃ i off c e' sz' ti ro, indexAddrP P t v (.int kd j) = some (.pointer (some ⟨i, off, none⟩)) ∧ blkOf v = some i ∧ i < h.next ∧ h.obj i = some (.row c e' sz' ti ro) ∧ off + sz ≤ c.length ∧ (c.drop off).take sz = (cs.drop (j * sz)).take sz := by
  rcases k with ⟨rfl, rfl, rfl⟩ | ⟨i, off, cap, c, e', sz', ti, ro, rfl, h1, h2, h3, h4, h5, rfl⟩
  · omega
  · have hm : (j + 1) * sz ≤ n * sz := Nat.mul_le_mul_right _ hj
    rw [Nat.add_mul, Nat.one_mul] at hm
    refine ⟨i, off + j * sz, c, e', sz', ti, ro, ?_, rfl, h2, h3, by omega, ?_⟩
    · simp [indexAddrP, ht, hs, hj]
    · rw [List.drop_take, List.drop_drop, List.take_take, Nat.min_eq_left (by omega)]

/-- An element that is a struct, or one cell. -/
theorem Sl.load {P : Program} {sz n : Nat} {h : AHeap} {v : Value} {cs : List Value} {t e : TypeId} (ht : P.underlying t = some (.slice e)) (hs : tsz P e = some sz) (ha : aggB P e = some true) (k : Sl sz h v n cs) {j : Nat} (hj : j < n) {kd : IntKind} :
    ∃ p, indexAddrP P t v (.int kd j) = some p ∧ loadR P h e p = some (.agg ((cs.drop (j * sz)).take sz).toArray) := by
  obtain ⟨i, off, c, e', sz', ti, ro, h1, h2, h3, h4, h5, h6⟩ := k.at ht hs hj (kd := kd)
  refine ⟨_, h1, ?_⟩
  simp only [loadR, h4, ha, hs, Option.bind_some]
  rw [if_pos h5, h6]

theorem Sl.cell {P : Program} {sz n : Nat} {h : AHeap} {v : Value} {cs : List Value} {t e : TypeId} (ht : P.underlying t = some (.slice e)) (hs : tsz P e = some sz) (k : Sl sz h v n cs) {j f : Nat} (hj : j < n) (hf : f < sz) {kd : IntKind} {x : Value} (hx : cs[j * sz + f]? = some x) :
    ∃ i off c e' sz' ti ro, indexAddrP P t v (.int kd j) = some (.pointer (some ⟨i, off, none⟩)) ∧ blkOf v = some i ∧ i < h.next ∧ h.obj i = some (.row c e' sz' ti ro) ∧ c[off + f]? = some x := by
  obtain ⟨i, off, c, e', sz', ti, ro, h1, h2, h3, h4, h5, h6⟩ := k.at ht hs hj (kd := kd)
  refine ⟨i, off, c, e', sz', ti, ro, h1, h2, h3, h4, ?_⟩
  have := congrArg (·[f]?) h6
  simp only [List.getElem?_take, if_pos hf, List.getElem?_drop] at this
  rw [this, hx]

theorem storeW_row {P : Program} {t e : TypeId} {h : AHeap} {i off sz : Nat} {c : List Value} {ti : Bool} {v : Value} (cl : List Value) (hcl : v.cells = cl.toArray) (hs : tsz P t = some cl.length) (ho : h.obj i = some (.row c e sz ti false)) (hoff : off + cl.length ≤ c.length)
    (hk : cl.all okCell = true) (hk2 : v.known = true) : storeW P h t (.pointer (some ⟨i, off, none⟩)) v = some (h.set i (.row (setL c off cl) e sz ti false)) := by
  simp only [storeW, ho, hs, hcl]
  rw [if_pos ⟨by simp, by simpa using hoff, by simpa using hk, hk2⟩]

/-- A new object that is written at once. -/
theorem push_set (h : AHeap) (o o' : AObj) : (h.push o).set h.next o' = h.push o' := by
  unfold AHeap.push AHeap.set
  simp only [AHeap.mk.injEq, and_true]
  funext j
  by_cases hj : j = h.next <;> simp [hj]
attribute [go_sem] push_set

theorem AWP.onlyE {P : Program} {Q : Exit → St → AHeap → Prop} {s s2 : St} {h : AHeap} {c : Code} (ts : List Nat) (e : s.only ts = s2) (k : AWP P c Q s2 h) : AWP P c Q s h := AWP.only ts (e ▸ k)

theorem Bytes.conv {P : Program} {h : AHeap} {v : Value} {bs : List UInt8} {t e u : TypeId} (ht : P.underlying t = some (.slice e)) (he : P.underlying e = some (.int .u8)) (hu : P.underlying u = some .string) (k : Bytes h v bs) :
    convR P h t u v = some (.string ⟨bs.toArray⟩) := by
  have := k.str ht he hu
  obtain ⟨a, cap, rfl⟩ := k.val
  simp only [convR, this]

/-- A text of bytes. -/
def T (bs : List UInt8) : Value := .string ⟨bs.toArray⟩
theorem strA_eql (a b : List UInt8) : strA .eql ⟨a.toArray⟩ ⟨b.toArray⟩ = some (.bool (a == b)) := by
  simp only [strA, ByteArray.toList_mk]
theorem strA_neq (a b : List UInt8) : strA .neq ⟨a.toArray⟩ ⟨b.toArray⟩ = some (.bool !(a == b)) := by
  simp only [strA, ByteArray.toList_mk]
attribute [go_sem] strA_eql strA_neq

theorem OBytes.val {e : TypeId} {n : Nat} {h : AHeap} {v : Value} {bs : List UInt8} (k : OBytes e n h v bs) : ∃ a cap, v = .slice a bs.length cap := k.bytes.val
theorem OBytes.keep {e : TypeId} {n : Nat} {h h' : AHeap} {v : Value} {bs : List UInt8} (k : OBytes e n h v bs) (hn : h.next ≤ h'.next) (hk : ∀ j c ti, j < h.next → blkOf v = some j → h.obj j = some (.row c e 1 ti false) → h'.obj j = h.obj j) : OBytes e n h' v bs := by
  rcases k with k | ⟨i, off, cap, c, ti, rfl, h1, h2, h3, h4, h5⟩
  · exact .inl k
  · exact .inr ⟨i, off, cap, c, ti, rfl, h1, h2, Nat.lt_of_lt_of_le h3 hn, (hk i c ti h3 rfl h4).trans h4, h5⟩
theorem GS.obytes {e : TypeId} {lo : Nat} {h : AHeap} {v : Value} {bs : List UInt8} (k : GB e lo h v bs) : OBytes e lo h v bs := by
  rcases k with ⟨rfl, h1, h2⟩ | ⟨i, off, c, ti, rfl, h1, h2, h3, h4, h5⟩
  · exact .inl ⟨rfl, by simpa using h1⟩
  · exact .inr ⟨i, off, _, c, ti, rfl, Nat.le_refl _, h1, h2, h3, by omega, by rw [Nat.mul_one] at h5; exact h5⟩

theorem Bytes.blk {h : AHeap} {v : Value} {bs : List UInt8} (k : Bytes h v bs) : ∀ j, blkOf v = some j → j < h.next := by
  rcases k with ⟨rfl, _⟩ | ⟨i, off, cap, c, e, sz, ti, ro, rfl, h2, h3, _⟩
  · intro j hj; cases hj
  · intro j hj; cases hj; exact h3

/-- The same value, later. -/
theorem Bytes.later {h h' h0 : AHeap} {v : Value} {bs : List UInt8} (k : Bytes h v bs) (hb : ∀ j, blkOf v = some j → j < h0.next) (x : Ext h0 h) (y : Ext h0 h') (hn : h.next ≤ h'.next) : Bytes h' v bs :=
  k.keep hn fun j _ hj => (y.old j (hb j hj)).trans (x.old j (hb j hj)).symm
end Ab
end

section
namespace Ab
open Go Go.RowKit
set_option autoImplicit false
set_option linter.unusedVariables false
set_option linter.unusedSimpArgs false

/-! ### Contracts of the kit, over the abstract heap: what lay there stays, new blocks come -/
theorem Rel.below0 {M : Mp} {h : AHeap} {w w' : World} (r : Rel M h w) (b : Below w.heap.size w w') : Rel M h w' ∧ Post M h w M h w' := by
  have hold : ∀ k, k < w.heap.size → w'.heap[k]? = w.heap[k]? := b.block
  refine ⟨⟨fun i o bb ho hM => (r.live i o bb ho hM).mono .rfl (hold _ (r.inb i bb hM)), r.inj, r.fresh, r.glob, fun i bb hM => Nat.lt_of_lt_of_le (r.inb i bb hM) b.size, r.ble, r.bnd, r.oldro, r.nb, r.b0⟩, ?_⟩
  exact { ext := .rfl, ghost := fun _ _ h => h, next := Nat.le_refl _, base := rfl, size := b.size, os := b.os, tape := b.tape, output := b.output,
          frame := fun k hk _ => hold k hk, old := fun k hk => hold k (Nat.lt_of_lt_of_le hk r.bsz), grow := fun i bb ho hM => .inr ⟨i, bb, ho, hM, rfl⟩ }

/-- The same, and one of the new blocks is told. -/
theorem Rel.below1 {M : Mp} {h : AHeap} {w w' : World} (r : Rel M h w) (b : Below w.heap.size w w') {g sz esz : Nat} {op : Bool} {o : AObj} (hg : w.heap.size ≤ g) (hg2 : g < w'.heap.size)
    (hb : ObjRel (upd M h.next ⟨g, 0, sz, esz, op⟩) ⟨g, 0, sz, esz, op⟩ w' o) :
    Rel (upd M h.next ⟨g, 0, sz, esz, op⟩) (h.push o) w' ∧ Post M h w (upd M h.next ⟨g, 0, sz, esz, op⟩) (h.push o) w' := by
  have hold : ∀ k, k < w.heap.size → w'.heap[k]? = w.heap[k]? := b.block
  have hn : M h.next = none := r.fresh _ (Nat.le_refl _)
  have hle := upd_le (b := ⟨g, 0, sz, esz, op⟩) hn
  constructor
  · constructor
    · intro i o' b ho hM
      simp only [AHeap.push] at ho
      by_cases e : i = h.next
      · subst e
        rw [if_pos rfl] at ho
        obtain rfl := Option.some.inj ho
        simp only [upd, if_pos] at hM
        obtain rfl := Option.some.inj hM
        exact hb
      · rw [if_neg e] at ho
        simp only [upd, if_neg e] at hM
        exact (r.live i o' b ho hM).mono hle (hold _ (r.inb i b hM))
    · intro i j b b' hi hj hMi hMj e
      simp only [AHeap.push] at hi hj
      simp only [upd] at hMi hMj
      by_cases ei : i = h.next <;> by_cases ej : j = h.next
      · rw [ei, ej]
      · rw [if_pos ei] at hMi; rw [if_neg ej] at hMj
        obtain rfl := Option.some.inj hMi
        have := r.inb j b' hMj; simp only [] at e; omega
      · rw [if_neg ei] at hMi; rw [if_pos ej] at hMj
        obtain rfl := Option.some.inj hMj
        have := r.inb i b hMi; simp only [] at e; omega
      · rw [if_neg ei] at hMi hi; rw [if_neg ej] at hMj hj
        exact r.inj i j b b' hi hj hMi hMj e
    · intro i hi
      simp only [AHeap.push] at hi
      simp only [upd, if_neg (show ¬ i = h.next by omega)]
      exact r.fresh i (by omega)
    · intro i hi
      obtain ⟨b, h1, h2⟩ := r.glob i hi
      exact ⟨b, hle _ _ h1, h2⟩
    · intro i b' hM
      simp only [upd] at hM
      split at hM
      · obtain rfl := Option.some.inj hM; exact hg2
      · have := r.inb i b' hM; have := b.size; omega
    · exact Nat.le_trans r.ble (Nat.le_succ _)
    · intro i hi
      simp only [AHeap.push] at hi ⊢
      rw [if_neg (by omega)]
      exact r.bnd i (by omega)
    · intro i o' hi ho
      simp only [AHeap.push] at hi ho
      rw [if_neg (by have := r.ble; omega)] at ho
      exact r.oldro i o' hi ho
    · intro i b' hi hM
      simp only [AHeap.push] at hi
      simp only [upd] at hM
      have hbs := r.bsz
      split at hM
      · obtain rfl := Option.some.inj hM; simp only [AHeap.push]; omega
      · exact r.nb i b' hi hM
    · intro i b' hM ho
      simp only [upd] at hM
      split at hM
      · obtain rfl := Option.some.inj hM; rfl
      · exact r.b0 i b' hM ho
  · exact { ext := hle, ghost := fun i hi hM => by simp only [upd]; rw [if_neg (by omega)]; exact hM, next := Nat.le_succ _, base := rfl, size := b.size, os := b.os, tape := b.tape, output := b.output,
            frame := fun k hk _ => hold k hk, old := fun k hk => hold k (Nat.lt_of_lt_of_le hk r.bsz),
            grow := fun i bb ho hM => by
              simp only [AHeap.push] at ho
              simp only [upd] at hM
              by_cases e : i = h.next
              · rw [if_pos e] at hM; obtain rfl := Option.some.inj hM; exact .inl hg
              · rw [if_neg e] at hM ho; exact .inr ⟨i, bb, ho, hM, rfl⟩ }

/-- A new row of texts that a contract of the kit hands back. -/
theorem textsBack {P : Program} {f : FuncId} {M : Mp} {h : AHeap} {w : World} {cargs : Array Value} {e : TypeId} {ok : List (List UInt8) → Prop} {enc : List UInt8 → Value} (he : enc = T) (r : Rel M h w)
    (k : Calls P f cargs w fun x w' => ∃ (v : Value) (ss : List (List UInt8)), x = .returned v ∧ ok ss ∧ w'.ownsRow w.heap.size e 1 v ss.length (ss.map enc) ∧ (v = .slice none 0 0 ↔ ss = []) ∧ Below w.heap.size w w') :
    Calls P f cargs w fun x w' => ∃ v vc M' h', x = .returned vc ∧ ((v = .slice none 0 0 ∧ ok [] ∧ h' = h) ∨ ∃ ss, ok ss ∧ ss ≠ [] ∧ v = .slice (some ⟨h.next, 0, none⟩) ss.length ss.length ∧ h' = h.push (.row (ss.map T) e 1 false false)) ∧ VRel M' v vc ∧ Rel M' h' w' ∧ Post M h w M' h' w' := by
  subst he
  refine k.mono fun x w' ⟨v, ss, hx, hok, hrow, hnil, hb⟩ => ?_
  by_cases hs : ss = []
  · subst hs
    obtain ⟨r2, p2⟩ := r.below0 hb
    exact ⟨.slice none 0 0, v, M, h, hx, .inl ⟨rfl, hok, rfl⟩, by rw [hnil.2 rfl]; exact .nilSlice, r2, p2⟩
  · rcases hrow.2 with ⟨hv, hz⟩ | ⟨g, cap, cur, hv, hg, hgb, r1, r2, r3, r4⟩
    · exact absurd (hnil.1 hv) hs
    · have hg2 : g < w'.heap.size := (Array.getElem?_eq_some_iff.1 hgb).1
      have hob : ∀ M', ObjRel M' ⟨g, 0, cap, 1, true⟩ w' (.row (ss.map T) e 1 false false) := fun M' => by
        refine ⟨cur, 0, 0, hgb, by simp only [r3]; omega, by simp; omega, rfl, by simp, by simp, fun j v hj => ?_⟩
        have e1 : cur.toList.take (ss.length * 1) = ss.map T := r4
        have hj2 : (cur.toList.take (ss.length * 1))[j]? = some v := by rw [e1]; exact hj
        rw [List.getElem?_take] at hj2
        split at hj2
        · refine ⟨v, by rw [Nat.zero_add]; rw [← Array.getElem?_toList]; exact hj2, ?_⟩
          rw [List.getElem?_map] at hj
          obtain ⟨l, _, rfl⟩ := Option.map_eq_some_iff.1 hj
          exact .string _
        · cases hj2
      obtain ⟨q1, q2⟩ := r.below1 hb hg hg2 (hob _)
      refine ⟨.slice (some ⟨h.next, 0, none⟩) ss.length ss.length, v, _, _, hx, .inr ⟨ss, hok, hs, rfl, rfl⟩, ?_, q1, q2⟩
      rw [hv]
      have := VRel.slice (M := upd M h.next ⟨g, 0, cap, 1, true⟩) h.next 0 ss.length ss.length cap ⟨g, 0, cap, 1, true⟩ (upd_self _ _ _) (Nat.le_refl _) (.inr ⟨rfl, r1, by simp⟩)
      simpa using this
end Ab
end
