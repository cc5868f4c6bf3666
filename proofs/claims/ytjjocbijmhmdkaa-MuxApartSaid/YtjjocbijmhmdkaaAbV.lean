import Derived.Test.YtjjocbijmhmdkaaAbU
namespace Ab
open Go
set_option autoImplicit false
set_option linter.unusedVariables false
set_option linter.unusedSimpArgs false

/-! ### The rules for the walk -/
/-- A row of operations without a call. -/
noncomputable def runL (P : Program) (ops : Array Oper) : List Oper → St → AHeap → Option (St × AHeap)
  | [], s, h => some (s, h)
  | o :: l, s, h => if dstOk s o.dst = true then
      match guardA ops s o.guard with
      | some true => match evalOp P h s o.op with
        | some (v, h') => runL P ops l (putO s o.dst v) h'
        | none => none
      | some false => runL P ops l (putO s o.dst undef) h
      | none => none
    else none

theorem awpL_of_run {P : Program} {ops : Array Oper} {Q : St → AHeap → Prop} : ∀ (l l2 : List Oper) {s s' : St} {h h' : AHeap}, runL P ops l s h = some (s', h') → awpL P ops Q l2 s' h' → awpL P ops Q (l ++ l2) s h
  | [], l2, s, s', h, h', e, k => by
    simp only [runL, Option.some.injEq, Prod.mk.injEq] at e
    obtain ⟨rfl, rfl⟩ := e
    exact k
  | o :: l, l2, s, s', h, h', e, k => by
    simp only [runL] at e
    split at e
    · rename_i hd
      refine ⟨hd, ?_⟩
      split at e
      · rename_i hg
        rw [hg]
        split at e
        · rename_i v h1 hv
          show stepA P o s h _
          unfold stepA
          rw [hv]
          exact awpL_of_run l l2 e k
        · cases e
      · rename_i hg
        rw [hg]
        exact awpL_of_run l l2 e k
      · cases e
    · cases e

noncomputable def runK (P : Program) (ops : Array Oper) (ts : List Nat) (s : St) (h : AHeap) : Option (St × AHeap) := (runL P ops ops.toList s h).map fun p => (p.1.only ts, p.2)

section
variable {P : Program} {Q : Exit → St → AHeap → Prop} {s s2 : St} {h h2 : AHeap} {id : Nat} {ops : Array Oper} {y : Code}

theorem AWP.only {c : Code} (ts : List Nat) (k : AWP P c Q (s.only ts) h) : AWP P c Q s h := k.weaken rfl fun t v ht => (only_get s ts t v ht).2

theorem AWP.sr (ts : List Nat) (e : runK P ops ts s h = some (s2, h2)) (k : AWP P y Q s2 h2) : AWP P (.seq (.region id ops false) y) Q s h := by
  unfold runK at e
  simp only [Option.map_eq_some_iff, Prod.mk.injEq] at e
  obtain ⟨⟨s1, h1⟩, e1, rfl, rfl⟩ := e
  refine AWP.seq (AWP.region ?_)
  have := awpL_of_run (Q := fun s h => AWP P y Q s h) ops.toList [] e1 (AWP.only ts k)
  rw [List.append_nil] at this
  exact this

theorem AWP.r (ts : List Nat) (e : runK P ops ts s h = some (s2, h2)) (k : ∀ s', s'.only ts = s2 → Q .normal s' h2) : AWP P (.region id ops false) Q s h := by
  unfold runK at e
  simp only [Option.map_eq_some_iff, Prod.mk.injEq] at e
  obtain ⟨⟨s1, h1⟩, e1, e2, rfl⟩ := e
  refine AWP.region ?_
  have := awpL_of_run (Q := fun s h => Q .normal s h) ops.toList [] e1 (k s1 e2)
  rw [List.append_nil] at this
  exact this

/-- A loop, of which some slots are told. -/
theorem AWP.loopR (ts : List Nat) {c : Code} (I : Nat → St → AHeap → Prop) (h₀ : ∃ n, I n (s.only ts) h)
    (round : ∀ n s h, I n s h → AWP P c (thn (fun s' h' => ∃ m, m < n ∧ I m (s'.only ts) h') Q) s h) : AWP P (.loop c) Q s h :=
  AWP.loop (fun n s h => I n (s.only ts) h) h₀ fun n s h hI => AWP.only ts (round n (s.only ts) h hI)

/-- Ways that meet again. -/
theorem AWP.cut (ts : List Nat) {x : Code} (I : St → AHeap → Prop) (k : AWP P x (thn (fun s h => I (s.only ts) h) Q) s h) (k2 : ∀ s h, I s h → AWP P y Q s h) : AWP P (.seq x y) Q s h :=
  AWP.seq (k.mono fun e s h q => by cases e <;> first | exact AWP.only ts (k2 _ _ q) | exact q)

/-- A region with calls: up to a call. -/
theorem AWP.sc (ts : List Nat) (k : awpL P ops (fun s' h' => AWP P y Q (s'.only ts) h') ops.toList s h) : AWP P (.seq (.region id ops false) y) Q s h := by
  refine AWP.seq (AWP.region ?_)
  have mono : ∀ (l : List Oper) (s : St) (h : AHeap), awpL P ops (fun s' h' => AWP P y Q (s'.only ts) h') l s h → awpL P ops (fun s' h' => AWP P y Q s' h') l s h := by
    intro l
    induction l with
    | nil => exact fun s h k => AWP.only ts k
    | cons o l ih =>
      rintro s h ⟨hd, k⟩
      refine ⟨hd, ?_⟩
      split at k
      · rename_i hg
        unfold stepA at k ⊢
        split at k
        · exact ih _ _ k
        · split at k
          · rename_i c _
            unfold callA at k ⊢
            split at k
            · split at k
              · split at k
                · exact ⟨k.1, k.2.mono fun v h' q => ih _ _ q⟩
                · exact k.elim
              · exact k.elim
            · exact k.elim
          · split at k
            · exact nextA_mono k fun v h' q => ih _ _ q
            · exact k.elim
          · exact k.elim
      · exact ih _ _ k
      · exact k.elim
  exact mono _ _ _ k

/-- What a call calls. -/
def callOf (s : St) (h : AHeap) (o : Op) : Option (FuncId × Array Value) :=
  match o with
  | .call { callee := .value f, args, .. } => match ev h.base s f with
    | some (.func (.func g) first cap) => (evs (ev h.base s) args.toList).map fun vs => (g, first ++ vs.toArray ++ cap)
    | _ => none
  | _ => none

theorem stepA_call {o : Oper} {g : FuncId} {args : Array Value} {K : Value → AHeap → Prop} (e : callOf s h o.op = some (g, args)) (hg : goCall P g = true) (k : ACalls P g args h K) : stepA P o s h K := by
  unfold callOf at e
  split at e
  · rename_i f as ts hop
    have hn : evalOp P h s o.op = none := by rw [hop]; rfl
    unfold stepA
    rw [hn]
    simp only [hop]
    unfold callA
    simp only []
    split at e
    · rename_i g' first cap hf
      simp only [Option.map_eq_some_iff, Prod.mk.injEq] at e
      obtain ⟨vs, hvs, rfl, rfl⟩ := e
      rw [hf]
      simp only [hvs]
      exact ⟨hg, k⟩
    · cases e
  · cases e

/-- The operations ahead of a call, and the call. -/
theorem awpL_call {Qn : St → AHeap → Prop} {l : List Oper} (n : Nat) {o : Oper} {g : FuncId} {args : Array Value} (e : runL P ops (l.take n) s h = some (s2, h2)) (ho : l[n]? = some o) (hd : dstOk s2 o.dst = true) (hgd : guardA ops s2 o.guard = some true)
    (ec : callOf s2 h2 o.op = some (g, args)) (hg : goCall P g = true) (k : ACalls P g args h2 fun v h' => awpL P ops Qn (l.drop (n + 1)) (putO s2 o.dst v) h') : awpL P ops Qn l s h := by
  have hl : l = l.take n ++ o :: l.drop (n + 1) := by
    obtain ⟨hlt, he⟩ := List.getElem?_eq_some_iff.1 ho
    rw [← he, ← List.drop_eq_getElem_cons hlt, List.take_append_drop]
  rw [hl]
  refine awpL_of_run _ _ e ⟨hd, ?_⟩
  rw [hgd]
  exact stepA_call ec hg k

/-- The rest of a region. -/
theorem awpL_rest {Qn : St → AHeap → Prop} {l : List Oper} (e : runL P ops l s h = some (s2, h2)) (k : Qn s2 h2) : awpL P ops Qn l s h := by
  have := awpL_of_run (Q := Qn) l [] e k
  rwa [List.append_nil] at this

/-! ### The same, where the order is drawn -/
def stillB (P : Program) (ops : Array Oper) (h : AHeap) : List (Nat × Ent) → List Nat → Prop := still P ops h

noncomputable def runD (P : Program) (ops : Array Oper) : List PItem → List (Nat × Ent) → St → AHeap → Option (St × AHeap × List (Nat × Ent))
  | [], rc, s, h => some (s, h, rc)
  | .n i ts :: l, rc, s, h => match ops[i]? with
    | none => none
    | some o => if dstOk s o.dst = true then
        match guardA ops (s.only ts) o.guard with
        | some false => runD P ops l ((i, .skip (s.only ts)) :: rc) (putO s o.dst undef) h
        | some true => match evalR P h (s.only ts) o.op with
          | some v => runD P ops l ((i, .r (s.only ts) v) :: rc) (putO s o.dst v) h
          | none => match evalA P h.next h.base (s.only ts) o.op with
            | some (v, ob) => runD P ops l ((i, .a (s.only ts) v h.next ob) :: rc) (putO s o.dst v) (h.push ob)
            | none => none
        | none => none
      else none
  | .w _ _ _ :: _, _, _, _ => none

theorem awpD_of_run {Qn : St → AHeap → Prop} : ∀ (l l2 : List PItem) {rc rc' : List (Nat × Ent)} {s s' : St} {h h' : AHeap}, runD P ops l rc s h = some (s', h', rc') → awpD P ops Qn l2 rc' s' h' → awpD P ops Qn (l ++ l2) rc s h
  | [], l2, rc, rc', s, s', h, h', e, k => by
    simp only [runD, Option.some.injEq, Prod.mk.injEq] at e
    obtain ⟨rfl, rfl, rfl⟩ := e
    exact k
  | .w _ _ _ :: l, l2, rc, rc', s, s', h, h', e, k => by cases e
  | .n i ts :: l, l2, rc, rc', s, s', h, h', e, k => by
    simp only [runD] at e
    show awpD P ops Qn (.n i ts :: (l ++ l2)) rc s h
    simp only [awpD]
    split at e
    · cases e
    · rename_i o ho
      rw [ho]
      split at e
      · rename_i hd
        refine ⟨hd, ?_⟩
        split at e
        · rename_i hg
          rw [hg]
          exact awpD_of_run l l2 e k
        · rename_i hg
          rw [hg]
          simp only []
          split at e
          · rename_i v hv
            rw [hv]
            exact awpD_of_run l l2 e k
          · rename_i hv
            rw [hv]
            simp only []
            split at e
            · rename_i v ob hv2
              rw [hv2]
              exact awpD_of_run l l2 e k
            · cases e
        · cases e
      · cases e

/-- A drawn region that writes nothing. -/
theorem AWP.sd (hmix : P.follows .mixedOrders = true) (items : List PItem) (hp : planOk ops items = true) (ts : List Nat) (e : (runD P ops items [] s h).map (fun p => (p.1.only ts, p.2.1)) = some (s2, h2)) (k : AWP P y Q s2 h2) :
    AWP P (.seq (.region id ops true) y) Q s h := by
  simp only [Option.map_eq_some_iff, Prod.mk.injEq] at e
  obtain ⟨⟨s1, h1, rc⟩, e1, rfl, rfl⟩ := e
  refine AWP.seq (AWP.draw hmix items hp ?_)
  have := awpD_of_run (Qn := fun s h => AWP P y Q s h) items [] e1 (AWP.only ts k)
  rw [List.append_nil] at this
  exact this

theorem AWP.d (hmix : P.follows .mixedOrders = true) (items : List PItem) (hp : planOk ops items = true) (ts : List Nat) (e : (runD P ops items [] s h).map (fun p => (p.1.only ts, p.2.1)) = some (s2, h2)) (k : ∀ s', s'.only ts = s2 → Q .normal s' h2) :
    AWP P (.region id ops true) Q s h := by
  simp only [Option.map_eq_some_iff, Prod.mk.injEq] at e
  obtain ⟨⟨s1, h1, rc⟩, e1, e2, rfl⟩ := e
  refine AWP.draw hmix items hp ?_
  have := awpD_of_run (Qn := fun s h => Q .normal s h) items [] e1 (k s1 e2)
  rw [List.append_nil] at this
  exact this

/-- A drawn region that writes, or calls. -/
theorem AWP.sw (hmix : P.follows .mixedOrders = true) (items : List PItem) (hp : planOk ops items = true) (k : awpD P ops (fun s' h' => AWP P y Q s' h') items [] s h) : AWP P (.seq (.region id ops true) y) Q s h :=
  AWP.seq (AWP.draw hmix items hp k)

/-- Up to a writing. -/
theorem awpD_write {Qn : St → AHeap → Prop} {l : List PItem} {rc rc2 : List (Nat × Ent)} (n i : Nat) (ts rs : List Nat) {o : Oper} {v : Value} {h3 : AHeap} (e : runD P ops (l.take n) rc s h = some (s2, h2, rc2)) (hl : l[n]? = some (.w i ts rs)) (ho : ops[i]? = some o) (hd : dstOk s2 o.dst = true)
    (hgd : guardA ops (s2.only ts) o.guard = some true) (ew : evalOp P h2 (s2.only ts) o.op = some (v, h3)) (hs : still P ops h3 rc2 rs) (k : awpD P ops Qn (l.drop (n + 1)) ((i, .w v) :: rc2) (putO s2 o.dst v) h3) : awpD P ops Qn l rc s h := by
  have hl2 : l = l.take n ++ .w i ts rs :: l.drop (n + 1) := by
    obtain ⟨hlt, he⟩ := List.getElem?_eq_some_iff.1 hl
    rw [← he, ← List.drop_eq_getElem_cons hlt, List.take_append_drop]
  rw [hl2]
  refine awpD_of_run _ _ e ?_
  simp only [awpD]
  rw [ho]
  refine ⟨hd, ?_⟩
  rw [hgd]
  show stepA P o (s2.only ts) h2 _
  unfold stepA
  rw [ew]
  exact ⟨hs, k⟩

/-- Up to a call. -/
theorem awpD_call {Qn : St → AHeap → Prop} {l : List PItem} {rc rc2 : List (Nat × Ent)} (n i : Nat) (ts rs : List Nat) {o : Oper} {g : FuncId} {args : Array Value} (e : runD P ops (l.take n) rc s h = some (s2, h2, rc2)) (hl : l[n]? = some (.w i ts rs)) (ho : ops[i]? = some o) (hd : dstOk s2 o.dst = true)
    (hgd : guardA ops (s2.only ts) o.guard = some true) (ec : callOf (s2.only ts) h2 o.op = some (g, args)) (hg : goCall P g = true)
    (k : ACalls P g args h2 fun v h' => still P ops h' rc2 rs ∧ awpD P ops Qn (l.drop (n + 1)) ((i, .w v) :: rc2) (putO s2 o.dst v) h') : awpD P ops Qn l rc s h := by
  have hl2 : l = l.take n ++ .w i ts rs :: l.drop (n + 1) := by
    obtain ⟨hlt, he⟩ := List.getElem?_eq_some_iff.1 hl
    rw [← he, ← List.drop_eq_getElem_cons hlt, List.take_append_drop]
  rw [hl2]
  refine awpD_of_run _ _ e ?_
  simp only [awpD]
  rw [ho]
  refine ⟨hd, ?_⟩
  rw [hgd]
  exact stepA_call ec hg k

/-- A writing that isn't asked for. -/
theorem awpD_skip {Qn : St → AHeap → Prop} {l : List PItem} {rc rc2 : List (Nat × Ent)} (n i : Nat) (ts rs : List Nat) {o : Oper} (e : runD P ops (l.take n) rc s h = some (s2, h2, rc2)) (hl : l[n]? = some (.w i ts rs)) (ho : ops[i]? = some o) (hd : dstOk s2 o.dst = true)
    (hgd : guardA ops (s2.only ts) o.guard = some false) (k : awpD P ops Qn (l.drop (n + 1)) ((i, .skip (s2.only ts)) :: rc2) (putO s2 o.dst undef) h2) : awpD P ops Qn l rc s h := by
  have hl2 : l = l.take n ++ .w i ts rs :: l.drop (n + 1) := by
    obtain ⟨hlt, he⟩ := List.getElem?_eq_some_iff.1 hl
    rw [← he, ← List.drop_eq_getElem_cons hlt, List.take_append_drop]
  rw [hl2]
  refine awpD_of_run _ _ e ?_
  simp only [awpD]
  rw [ho]
  refine ⟨hd, ?_⟩
  rw [hgd]
  exact k

/-- The rest of a drawn region. -/
theorem awpD_rest {Qn : St → AHeap → Prop} {l : List PItem} {rc rc2 : List (Nat × Ent)} (e : runD P ops l rc s h = some (s2, h2, rc2)) (k : Qn s2 h2) : awpD P ops Qn l rc s h := by
  have := awpD_of_run (Qn := Qn) l [] e k
  rwa [List.append_nil] at this

end

/-! ### What simp goes by: step by step -/
noncomputable def stepR (P : Program) (ops : Array Oper) (o : Oper) (s : St) (h : AHeap) : Option (St × AHeap) :=
  if dstOk s o.dst = true then
    match guardA ops s o.guard with
    | some true => (evalOp P h s o.op).map fun q => (putO s o.dst q.1, q.2)
    | some false => some (putO s o.dst undef, h)
    | none => none
  else none

theorem runL_nil {P : Program} {ops : Array Oper} {s : St} {h : AHeap} : runL P ops [] s h = some (s, h) := rfl
theorem runL_cons {P : Program} {ops : Array Oper} {o : Oper} {l : List Oper} {n : Nat} {L : List (Nat × Value)} {h : AHeap} :
    runL P ops (o :: l) ⟨n, L⟩ h = (stepR P ops o ⟨n, L⟩ h).bind fun p => runL P ops l p.1 p.2 := by
  unfold stepR
  rw [runL]
  split
  · cases guardA ops ⟨n, L⟩ o.guard with
    | none => rfl
    | some b => cases b with
      | false => rfl
      | true => cases evalOp P h ⟨n, L⟩ o.op <;> rfl
  · rfl

noncomputable def stepD (P : Program) (ops : Array Oper) (i : Nat) (ts : List Nat) (rc : List (Nat × Ent)) (s : St) (h : AHeap) : Option (St × AHeap × List (Nat × Ent)) :=
  match ops[i]? with
  | none => none
  | some o => if dstOk s o.dst = true then
      match guardA ops (s.only ts) o.guard with
      | some false => some (putO s o.dst undef, h, (i, .skip (s.only ts)) :: rc)
      | some true => match evalR P h (s.only ts) o.op with
        | some v => some (putO s o.dst v, h, (i, .r (s.only ts) v) :: rc)
        | none => (evalA P h.next h.base (s.only ts) o.op).map fun q => (putO s o.dst q.1, h.push q.2, (i, .a (s.only ts) q.1 h.next q.2) :: rc)
      | none => none
    else none

theorem runD_nil {P : Program} {ops : Array Oper} {rc : List (Nat × Ent)} {s : St} {h : AHeap} : runD P ops [] rc s h = some (s, h, rc) := rfl
theorem runD_cons {P : Program} {ops : Array Oper} {i : Nat} {ts : List Nat} {l : List PItem} {rc : List (Nat × Ent)} {n : Nat} {L : List (Nat × Value)} {h : AHeap} :
    runD P ops (.n i ts :: l) rc ⟨n, L⟩ h = (stepD P ops i ts rc ⟨n, L⟩ h).bind fun p => runD P ops l p.2.2 p.1 p.2.1 := by
  unfold stepD
  rw [runD]
  cases ops[i]? with
  | none => rfl
  | some o =>
    simp only []
    split
    · cases guardA ops (St.only ⟨n, L⟩ ts) o.guard with
      | none => rfl
      | some b => cases b with
        | false => rfl
        | true =>
          simp only []
          cases evalR P h (St.only ⟨n, L⟩ ts) o.op with
          | some v => rfl
          | none =>
            simp only []
            cases evalA P h.next h.base (St.only ⟨n, L⟩ ts) o.op <;> rfl
    · rfl

theorem convR_int {P : Program} {h : AHeap} {s d : TypeId} {k : IntKind} {n : Int} : convR P h s d (.int k n) = convP P s d (.int k n) := rfl
theorem convR_string {P : Program} {h : AHeap} {s d : TypeId} {b : ByteArray} : convR P h s d (.string b) = convP P s d (.string b) := rfl
theorem convR_slice {P : Program} {h : AHeap} {s d : TypeId} {a : Option Addr} {n c : Nat} : convR P h s d (.slice a n c) = match strR P h s d (.slice a n c) with
    | some u => some u
    | none => convS P h s d (.slice a n c) := rfl

attribute [go_sem] runK runL_nil runL_cons runD_nil runD_cons stepR stepD guardA dstOk evalOp evalR evalA evalW ev evs evParts evO constOk constCell putO St.put enterL St.only onlyL St.get lk callOf Option.map_some Option.map_none Option.bind_some Option.bind_none binA eqA unA convP convR_int convR_string convR_slice builtinR extractP nilCheckP isShift arithI cmpI shiftI boxA allocA List.all_cons List.all_nil List.take_zero List.take_succ_cons List.drop_zero List.drop_succ_cons List.getElem?_cons_zero List.getElem?_cons_succ List.getElem?_toArray undef
end Ab
