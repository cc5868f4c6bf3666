import Derived.Test.YtdbonhhdpaklhaaGreatDoorAbLibA
import Derived.Orders
section
namespace Ab
open Go
set_option autoImplicit false
set_option linter.unusedVariables false
set_option linter.unusedSimpArgs false

/-! ### Calls -/
/-- A function of the program's own, with a body. -/
def goCall (P : Program) (g : FuncId) : Bool :=
  match P.funcs[g]? with
  | some fn => fn.body.isSome && fn.name != "runtime.NumGoroutine"
  | none => false

theorem run_callFunc {P : Program} {g : FuncId} {args : Array Value} (w : World) (h : goCall P g = true) : (callFunc g args).run P w = .ok (.enter g args) w := by
  unfold goCall at h
  cases hf : P.funcs[g]? with
  | none => simp [hf] at h
  | some fn =>
    simp only [hf, Bool.and_eq_true] at h
    obtain ⟨h1, h2⟩ := h
    have h3 : (fn.name == "runtime.NumGoroutine") = false := by simpa using h2
    have h4 : fn.body.isNone = false := by cases hb : fn.body <;> simp [hb] at h1 ⊢
    unfold callFunc
    simp only [Sem.run_bind, run_program, Result.andThen, hf, h3, h4, Bool.false_eq_true, if_false, Sem.run_pure]

def callA (P : Program) (c : Call) (s : St) (h : AHeap) (K : Value → AHeap → Prop) : Prop :=
  match c.callee with
  | .value f => match ev h.base s f with
    | some (.func (.func g) first cap) => match evs (ev h.base s) c.args.toList with
      | some vs => (goCall P g = true ∧ ACalls P g (first ++ vs.toArray ++ cap) h K) ∨ ∃ e v, ExRow P g e ∧ exV h e (first ++ vs.toArray ++ cap).toList = some v ∧ K v h
      | none => False
    | _ => False
  | _ => False

noncomputable def stepA (P : Program) (o : Oper) (s : St) (h : AHeap) (K : Value → AHeap → Prop) : Prop :=
  match evalOp P h s o.op with
  | some p => K p.1 p.2
  | none => match o.op with
    | .call c => callA P c s h K
    | .next x false => match ev h.base s x with
      | some v => nextA h v K
      | none => False
    | _ => False

/-- How the machine's state behind an operation stands to the abstract one. -/
def Next1 (o : Oper) (M : Mp) (h : AHeap) (a : Act) (w : World) (K : Value → AHeap → Prop) : Act → World → Prop :=
  fun a' w' => ∃ v vc M' h', K v h' ∧ a' = a.put o.dst vc ∧ VRel M' v vc ∧ Rel M' h' w' ∧ Post M h w M' h' w'

theorem Oper.upon_mono {P : Program} {o : Oper} {a : Act} {n1 n2 : Act → World → Prop} {Q : Exit → Act → World → Prop} (hn : ∀ a w, n1 a w → n2 a w) {res : Result Next} (h : o.upon P a n1 Q res) : o.upon P a n2 Q res := by
  unfold Oper.upon at h ⊢
  split at h
  · exact hn _ _ h
  · exact hn _ _ h
  · exact hn _ _ h
  · refine Calls.mono h fun e w' he => ?_
    cases e with
    | returned v => exact hn _ _ he
    | panicked c => exact he
    | outgrown => exact he
  · exact Rows.mono h fun v w' hv => hn _ _ hv
  · exact h
  · exact h

theorem stepA_sound {P : Program} {M : Mp} {s : St} {h : AHeap} {a : Act} {w : World} {o : Oper} {K : Value → AHeap → Prop} (sr : SRel M s a) (r : Rel M h w) (k : stepA P o s h K) (Q : Exit → Act → World → Prop) :
    o.wp P a w (Next1 o M h a w K) Q := by
  unfold stepA at k
  unfold Oper.wp
  split at k
  · rename_i p hp
    obtain ⟨w', M', vc, hrun, hv, hr, hp'⟩ := evalOp_sound (v := p.1) (h' := p.2) sr r hp
    rcases hrun with hrun | ⟨hrun, rfl⟩
    · rw [hrun]
      exact ⟨p.1, vc, M', p.2, k, rfl, hv, hr, hp'⟩
    · rw [hrun]
      exact ⟨p.1, undef, M', p.2, k, rfl, hv, hr, hp'⟩
  · split at k
    · rename_i c hop
      unfold callA at k
      split at k
      · rename_i f hcal
        split at k
        · rename_i g first cap hf
          split at k
          · rename_i vs hvs
            have hfv := ev_sound sr r hf
            have hargs := evs_sound sr r hvs
            rw [toArray_map] at hargs
            generalize hfe : a.eval f = fv at hfv
            cases hfv
            rename_i f' c' h1 h2 h3 h4
            have hall : VRels M (first ++ vs.toArray ++ cap) (f' ++ c.args.map a.eval ++ c') := VRels.append (VRels.append ⟨h1, h2⟩ hargs) ⟨h3, h4⟩
            rcases k with ⟨hg, hcalls⟩ | ⟨e, v, hx, he, hK⟩
            rotate_left
            · have hall2 : VRels M ((first ++ vs.toArray ++ cap).toList).toArray (f' ++ c.args.map a.eval ++ c') := by rw [Array.toArray_toList]; exact hall
              obtain ⟨h5, h6⟩ := exV_sound (P := P) r hall2 he
              have hrun : (execOp a.eval o).run P w = .ok (.value v) w := by
                simp only [execOp, hop, resolve, hcal, hfe, Sem.run_bind, Sem.run_pure, Result.andThen, Deferred.ofValue, invoke]
                exact run_callExt hx h5
              rw [hrun]
              exact ⟨v, v, M, h, hK, rfl, h6, r, Post.refl _ _ _⟩
            have hrun : (execOp a.eval o).run P w = .ok (.enter g (f' ++ c.args.map a.eval ++ c')) w := by
              simp only [execOp, hop, resolve, hcal, hfe, Sem.run_bind, Sem.run_pure, Result.andThen, Deferred.ofValue, invoke]
              exact run_callFunc w hg
            rw [hrun]
            refine Calls.mono (hcalls M w _ r hall) ?_
            rintro e w' ⟨v, vc, M', h', rfl, q, hv, hr, hp⟩
            exact ⟨v, vc, M', h', q, rfl, hv, hr, hp⟩
          · exact k.elim
        · exact k.elim
      · exact k.elim
    · rename_i x hop
      split at k
      · rename_i v hv
        obtain ⟨i, m, since, seen, stepped, es, clock, rfl, ho, hm, hall, hsc, k1, k2⟩ := k
        have hx := ev_sound sr r hv
        generalize hfe : a.eval x = xv at hx
        cases hx
        rename_i b hM
        obtain ⟨b2, h0, hM2, hw⟩ := iter_sound r hM ho
        obtain ⟨es', hw2, hmr⟩ := r.live m _ b2 hm hM2
        have hold : ∀ e ∈ es'.toList, e.born < since := fun e he => by
          obtain ⟨j, hj⟩ := List.mem_iff_getElem?.1 he
          obtain ⟨e2, g1, g2, g3, _⟩ := hmr.get hj
          rw [← g3]; exact (hall e2 (List.mem_of_getElem? g1)).1
        rcases run_next (P := P) (ty := o.type) hw hw2 hold hsc with ⟨q1, q2⟩ | ⟨j, hj, q1, w1, g1, g2, g3, g4, q2⟩
        · have hrun : (execOp a.eval o).run P w = .ok (.value (.tuple #[.bool false])) w := by
            simp only [execOp, hop, hfe, h0, Nat.zero_add]
            exact run_v q2
          rw [hrun]
          refine ⟨_, _, M, h, k1 fun e he => ?_, rfl, VRels.tuple (VRels.single (.bool false)), r, Post.refl _ _ _⟩
          obtain ⟨j, hj⟩ := List.mem_iff_getElem.1 he
          obtain ⟨hj, he2⟩ := hj
          simp at hj he2
          have hj2 : j < es'.size := by rw [← hmr.1]; exact hj
          have := (hmr.2 j hj hj2).2.1
          rw [← he2, this]
          exact q1 _ (by simp)
        · have hj2 : j < es.size := by rw [hmr.1]; exact hj
          obtain ⟨p1, p2, p3⟩ := hmr.2 j hj2 hj
          have r1 : Rel M h w1 := r.world g1
          have hrun : (execOp a.eval o).run P w = .ok (.value (.tuple #[.bool true, es'[j].key, es'[j].val])) ({ w1 with heap := w.heap.setIfInBounds b.blk (.mapIter (some b2.blk) since (seen.push es'[j].born) clock) } : World) := by
            simp only [execOp, hop, hfe, h0, Nat.zero_add]
            exact run_v q2
          rw [hrun]
          have hlt : b.blk < w1.heap.size := by rw [g1]; exact r.inb i b hM
          obtain ⟨r2, p2'⟩ := r1.setOther (o' := .mapIter (some m) since (seen.push es[j].born) clock) (co := .mapIter (some b2.blk) since (seen.push es'[j].born) clock) ho hM
            ⟨h0, some b2.blk, by simp only [Array.getElem?_setIfInBounds, if_pos rfl, hlt, p2, if_true], .map m b2 hM2⟩
          rw [g1] at r2 p2'
          have hmem : es[j] ∈ es.toList := by simp
          refine ⟨.tuple #[.bool true, es[j].key, es[j].val], _, M, _, k2 es[j] hmem (by rw [p2]; exact q1), rfl, ?_, r2, (Post.world (M := M) (h := h) g1 g2 g3 g4).trans p2'⟩
          have h3 : VRel M es[j].key es'[j].key := p1 ▸ VRel.refl_flat (hall _ hmem).2
          have := ((VRels.single (VRel.bool (M := M) true)).append (VRels.single h3)).append (VRels.single p3)
          exact VRels.tuple (by simpa using this)
      · exact k.elim
    · exact k.elim

/-! ### Rows of operations, one behind the other -/
/-- Is an operation asked for? -/
def guardA (ops : Array Oper) (s : St) : Option (Nat × Bool) → Option Bool
  | none => some true
  | some (j, want) => match (ops[j]?).bind (·.dst) with
    | some d => match s.get d with
      | some (.bool b) => some (b == want)
      | some (.tuple _) => some false
      | _ => none
    | none => some false

theorem guardA_sound {M : Mp} {s : St} {a : Act} (sr : SRel M s a) {ops : Array Oper} {o : Oper} {b : Bool} (h : guardA ops s o.guard = some b) : Region.wanted o (yielded ops a.tmps) = b := by
  unfold guardA at h
  unfold Region.wanted
  cases hg : o.guard with
  | none => rw [hg] at h; simp only [Option.some.injEq] at h; simp only []; exact h
  | some p =>
    obtain ⟨j, want⟩ := p
    rw [hg] at h
    simp only [] at h ⊢
    unfold yielded
    cases hd : (ops[j]?).bind (·.dst) with
    | none =>
      rw [hd] at h
      simp only [Option.some.injEq] at h
      subst h
      simp
    | some d =>
      rw [hd] at h
      simp only [Option.bind_some] at h ⊢
      split at h
      · rename_i c hc
        simp only [Option.some.injEq] at h
        subst h
        have hv := sr.get d _ hc
        have : a.tmps[d]? = some (.bool c) := by
          rw [Array.getD_eq_getD_getElem?] at hv
          cases ht : a.tmps[d]? with
          | none => rw [ht] at hv; cases hv
          | some u => rw [ht] at hv; simp only [Option.getD_some] at hv; cases hv; rfl
        rw [this]
        simp only []
        cases c <;> cases want <;> rfl
      · rename_i c hc
        simp only [Option.some.injEq] at h
        subst h
        have hv := sr.get d _ hc
        rw [Array.getD_eq_getD_getElem?] at hv
        cases ht : a.tmps[d]? with
        | none => simp
        | some u => rw [ht] at hv; simp only [Option.getD_some] at hv; cases hv; simp
      · cases h

def putO (s : St) : Option Nat → Value → St
  | some d, v => s.put d v
  | none, _ => s

def dstOk (s : St) : Option Nat → Bool
  | some d => decide (d < s.n)
  | none => true

theorem SRel.putO {M : Mp} {s : St} {a : Act} (h : SRel M s a) {d : Option Nat} (hd : dstOk s d = true) {v vc : Value} (hv : VRel M v vc) : SRel M (putO s d v) (a.put d vc) := by
  cases d with
  | none => exact h
  | some d => exact h.put (of_decide_eq_true hd) hv

noncomputable def awpL (P : Program) (ops : Array Oper) (Q : St → AHeap → Prop) : List Oper → St → AHeap → Prop
  | [], s, h => Q s h
  | o :: l, s, h => dstOk s o.dst = true ∧ match guardA ops s o.guard with
    | some true => stepA P o s h fun v h' => awpL P ops Q l (putO s o.dst v) h'
    | some false => awpL P ops Q l (putO s o.dst undef) h
    | none => False

theorem awpL_sound {P : Program} {ops : Array Oper} {Q : St → AHeap → Prop} {Qc : Exit → Act → World → Prop} {M0 : Mp} {h0 : AHeap} {w0 : World} (hq : ∀ M s h a w, Q s h → SRel M s a → Rel M h w → Post M0 h0 w0 M h w → Qc .normal a w) :
    ∀ (l : List Oper) (is : List Nat), is.map (ops[·]?) = l.map some → ∀ (M : Mp) (s : St) (h : AHeap) (a : Act) (w : World), SRel M s a → Rel M h w → Post M0 h0 w0 M h w → awpL P ops Q l s h → wpOps P ops Qc is a w
  | [], is, his, M, s, h, a, w, sr, r, p, k => by
    obtain rfl : is = [] := by simpa using his
    exact hq M s h a w k sr r p
  | o :: l, is, his, M, s, h, a, w, sr, r, p, k => by
    cases is with
    | nil => simp at his
    | cons i is =>
      simp only [List.map_cons, List.cons.injEq] at his
      obtain ⟨hi, his⟩ := his
      unfold wpOps
      simp only [hi]
      obtain ⟨hd, k⟩ := k
      split at k
      · rename_i hg
        rw [guardA_sound sr hg, if_pos rfl]
        left
        refine Oper.upon_mono ?_ (stepA_sound sr r k Qc)
        rintro a' w' ⟨v, vc, M', h', k', rfl, hv, hr, hp⟩
        exact awpL_sound hq l is his M' _ h' _ w' ((sr.mono hp.ext).putO hd hv) hr (p.trans hp) k'
      · rename_i hg
        rw [guardA_sound sr hg, if_neg (by simp)]
        exact awpL_sound hq l is his M _ h _ w (sr.putO hd (VRel.undef M)) r p k
      · exact k.elim

theorem AWP.region {P : Program} {id : Nat} {ops : Array Oper} {Q : Exit → St → AHeap → Prop} {s : St} {h : AHeap} (k : awpL P ops (Q .normal) ops.toList s h) : AWP P (.region id ops false) Q s h := by
  intro M a w sr r
  refine wp_region ?_
  refine awpL_sound (M0 := M) (h0 := h) (w0 := w) (Q := Q .normal) (fun M' s' h' a' w' q sr' r' p' => ⟨M', s', h', q, sr', r', p'⟩) ops.toList (List.range ops.size) ?_ M s h a w sr r (Post.refl _ _ _) k
  apply List.ext_getElem
  · simp
  · intro i h1 h2
    simp at h1 ⊢

/-! ### A function's results, and its call -/
def resA (P : Program) (h : AHeap) (s : St) : List ResultVar → Option (List Value)
  | [] => some []
  | .tmp t :: l => (s.get t).bind fun v => (resA P h s l).map (v :: ·)
  | .cell a t :: l => (s.get a).bind fun p => (loadR P h t p).bind fun v => (resA P h s l).map (v :: ·)

def resV : List Value → Value
  | [v] => v
  | l => .tuple l.toArray

def rvS (tmps : Array Value) : ResultVar → Sem Value
  | .tmp t => pure (tmps.getD t undef)
  | .cell b t => do loadVar t (← asAddr (tmps.getD b undef))

theorem results_eq (fn : Func) (tmps : Array Value) : results fn tmps = (do let vs ← fn.results.mapM (rvS tmps); pure (if h : vs.size = 1 then vs[0] else .tuple vs)) := by
  unfold results
  rfl

theorem resA_sound {P : Program} {M : Mp} {s : St} {h : AHeap} {a : Act} {w : World} (sr : SRel M s a) (r : Rel M h w) : ∀ (l : List ResultVar) (vs : List Value), resA P h s l = some vs →
    ∃ cs : List Value, (l.mapM (rvS a.tmps)).run P w = .ok cs w ∧ VRels M vs.toArray cs.toArray
  | [], vs, e => by simp only [resA, Option.some.injEq] at e; subst e; exact ⟨[], rfl, VRels.nil⟩
  | .tmp t :: l, vs, e => by
    simp only [resA, Option.bind_eq_some_iff, Option.map_eq_some_iff] at e
    obtain ⟨v, hv, rs, hr, rfl⟩ := e
    obtain ⟨cs, h1, h2⟩ := resA_sound sr r l rs hr
    refine ⟨a.tmps.getD t undef :: cs, ?_, ?_⟩
    · rw [List.mapM_cons]
      simp only [rvS, Sem.run_bind, Sem.run_pure, Result.andThen, h1]
    · have := (VRels.single (sr.get t v hv)).append h2
      simpa using this
  | .cell b t :: l, vs, e => by
    simp only [resA, Option.bind_eq_some_iff, Option.map_eq_some_iff] at e
    obtain ⟨p, hp, v, hv, rs, hr, rfl⟩ := e
    obtain ⟨cs, h1, h2⟩ := resA_sound sr r l rs hr
    have hpv := sr.get b p hp
    obtain ⟨vc, hl, hvr⟩ := loadR_sound (P := P) r hpv hv
    have hptr : ∃ x, a.tmps.getD b undef = .pointer (some x) := by
      generalize a.tmps.getD b undef = q at hpv
      cases hpv <;> simp only [loadR, poison] at hv <;> first | (cases hv; done) | exact ⟨_, rfl⟩
    obtain ⟨x, hx⟩ := hptr
    refine ⟨vc :: cs, ?_, ?_⟩
    · rw [List.mapM_cons]
      simp only [Instr.loadAt, hx, Instr.sureAddr, Sem.run_bind, Sem.run_pure, Result.andThen] at hl
      have e2 : (rvS a.tmps (.cell b t)).run P w = .ok vc w := by
        simp only [rvS, Sem.run_bind, hx, asAddr, Sem.run_pure, Result.andThen, hl]
      simp only [Sem.run_bind, e2, Result.andThen, h1, Sem.run_pure]
    · have := (VRels.single hvr).append h2
      simpa using this

theorem run_results {P : Program} {M : Mp} {s : St} {h : AHeap} {a : Act} {w : World} (sr : SRel M s a) (r : Rel M h w) {fn : Func} {vs : List Value} (e : resA P h s fn.results.toList = some vs) :
    ∃ vc, (results fn a.tmps).run P w = .ok vc w ∧ VRel M (resV vs) vc := by
  obtain ⟨cs, h1, h2⟩ := resA_sound sr r _ _ e
  rw [results_eq, Array.mapM_eq_mapM_toList]
  simp only [Sem.run_bind, Sem.run_map]
  rw [h1]
  simp only [Result.andThen, Sem.run_pure]
  refine ⟨_, rfl, ?_⟩
  have hlen : vs.length = cs.length := by have := h2.1; simpa using this
  match vs, cs, hlen, h2 with
  | [], [], _, h2 => exact h2.tuple
  | [v], [c], _, h2 => exact h2.2 0 (by simp) (by simp)
  | v :: u :: l, c :: d :: m, _, h2 => exact h2.tuple

/-- What a body must come to. -/
def bodyQ (P : Program) (fn : Func) (Q : Value → AHeap → Prop) : Exit → St → AHeap → Prop
  | .normal, s, h | .ret, s, h => match resA P h s fn.results.toList with
    | some vs => Q (resV vs) h
    | none => False
  | _, _, _ => False

/-- The slots at a call: the arguments, then nothing. -/
def enterL : List Value → Nat → List (Nat × Value)
  | [], _ => []
  | v :: l, i => (i, v) :: enterL l (i + 1)

theorem lk_enterL : ∀ (l : List Value) (i t : Nat) (v : Value), lk (enterL l i) t = some v → i ≤ t ∧ l[t - i]? = some v
  | [], i, t, v, h => by cases h
  | u :: l, i, t, v, h => by
    simp only [enterL, lk] at h
    split at h
    · rename_i e; subst e; obtain rfl := Option.some.inj h; exact ⟨Nat.le_refl _, by simp⟩
    · rename_i e
      obtain ⟨h1, h2⟩ := lk_enterL l (i + 1) t v h
      refine ⟨by omega, ?_⟩
      rw [show t - i = (t - (i + 1)) + 1 by omega]
      simpa using h2

theorem ACalls.of_awp {P : Program} {f : FuncId} {fn : Func} {c : Code} {args : List Value} {h : AHeap} {Q : Value → AHeap → Prop} {n : Nat} (hf : P.funcs[f]? = some fn) (hb : fn.body = some c) (hnt : fn.ntmps = n) (hn : args.length ≤ n)
    (k : AWP P c (bodyQ P fn Q) ⟨n, enterL args 0⟩ h) : ACalls P f args.toArray h Q := by
  subst hnt
  intro M w cargs r hargs
  refine calls_of_wp hf hb ?_
  have hsz : cargs.size = args.length := by have := hargs.1; simp at this; exact this.symm
  have sr : SRel M ⟨fn.ntmps, enterL args 0⟩ { tmps := cargs ++ Array.replicate (fn.ntmps - cargs.size) undef, defers := [] } := by
    refine ⟨rfl, by simp; omega, fun t v ht => ?_⟩
    obtain ⟨_, h2⟩ := lk_enterL args 0 t v ht
    simp only [Nat.sub_zero] at h2
    obtain ⟨hlt, rfl⟩ := List.getElem?_eq_some_iff.1 h2
    have h3 := hargs.2 t (by simpa using hlt) (by omega)
    have h4 : (cargs ++ Array.replicate (fn.ntmps - cargs.size) undef).getD t undef = cargs[t]'(by omega) := by
      rw [Array.getD_eq_getD_getElem?, Array.getElem?_append_left (by omega), Array.getElem?_eq_getElem (by omega)]; rfl
    rw [h4]
    simpa using h3
  refine wp_mono (k M _ w sr r) ?_
  rintro e a' w' ⟨M', s', h', q, sr', r', p⟩
  have fin : ∀ vs, resA P h' s' fn.results.toList = some vs → Q (resV vs) h' → a'.defers = [] ∧ ∃ v, (results fn a'.tmps).run P w' = .ok v w' ∧
      ∃ v_1 vc M'' h'', Ending.returned v = Ending.returned vc ∧ Q v_1 h'' ∧ VRel M'' v_1 vc ∧ Rel M'' h'' w' ∧ Post M h w M'' h'' w' := by
    intro vs hvs hq
    obtain ⟨vc, h1, h2⟩ := run_results (P := P) sr' r' hvs
    exact ⟨sr'.defers, vc, h1, _, vc, M', h', rfl, hq, h2, r', p⟩
  cases e with
  | normal =>
    simp only [bodyQ] at q
    split at q
    · exact fin _ ‹_› q
    · exact q.elim
  | ret =>
    simp only [bodyQ] at q
    split at q
    · exact fin _ ‹_› q
    · exact q.elim
  | exit id => exact q.elim
  | goto l => exact q.elim
  | panic ch => exact q.elim
  | outgrown => exact q.elim
end Ab
end

section
namespace Ab
open Go
set_option autoImplicit false
set_option linter.unusedVariables false
set_option linter.unusedSimpArgs false

/-! ### Readings stay, where no object goes -/
def AHeap.le (h h' : AHeap) : Prop := h'.base = h.base ∧ ∀ i o, h.obj i = some o → h'.obj i = some o

theorem loadR_mono {P : Program} {h h' : AHeap} (k : h.le h') {t : TypeId} {x v : Value} (e : loadR P h t x = some v) : loadR P h' t x = some v := by
  unfold loadR at e ⊢
  split at e
  · rename_i i off
    split at e
    · rename_i c a b d f ho
      rw [k.2 _ _ ho]; exact e
    · cases e
  · cases e

theorem strR_mono {P : Program} {h h' : AHeap} (k : h.le h') {s d : TypeId} {x v : Value} (e : strR P h s d x = some v) : strR P h' s d x = some v := by
  unfold strR at e ⊢
  split at e
  · exact e
  · rename_i i off len cap
    split at e
    · split at e
      · split at e
        · rename_i ho
          rw [k.2 _ _ ho]; exact e
        · cases e
      · cases e
    · cases e
  · cases e

theorem convS_mono {P : Program} {h h' : AHeap} (k : h.le h') {s d : TypeId} {x v : Value} (e : convS P h s d x = some v) : convS P h' s d x = some v := by
  unfold convS at e ⊢
  split at e
  · split at e
    · split at e
      · rename_i he ho
        rw [k.2 _ _ ho, he, k.1]; exact e
      · cases e
    · cases e
  · cases e

theorem strR_none {P : Program} {h : AHeap} {s d : TypeId} {x v : Value} (e : convS P h s d x = some v) : ∀ h', strR P h' s d x = none := by
  intro h'
  unfold convS at e
  split at e
  · split at e
    · rename_i e1 hd
      split at e
      · split at e
        · rename_i hc
          obtain ⟨rfl, _⟩ := hc
          simp only [strR, hd]
        · cases e
      · cases e
    · cases e
  · cases e

theorem convR_mono {P : Program} {h h' : AHeap} (k : h.le h') {s d : TypeId} {x v : Value} (e : convR P h s d x = some v) : convR P h' s d x = some v := by
  unfold convR at e ⊢
  split at e
  · exact e
  · exact e
  · split at e
    · rename_i hu
      rw [strR_mono k hu]; exact e
    · rw [strR_none e h']; exact convS_mono k e
  · cases e

theorem sliceR_mono {P : Program} {h h' : AHeap} (k : h.le h') {t : TypeId} {x v : Value} {lo hi mx : Option Value} (e : sliceR P h t x lo hi mx = some v) : sliceR P h' t x lo hi mx = some v := by
  unfold sliceR at e ⊢
  split at e
  · exact e
  · exact e
  · split at e
    · split at e
      · rename_i hsz ho
        rw [k.2 _ _ ho, hsz]; exact e
      · cases e
    · cases e
  · exact e
  · cases e

theorem lenE_mono {P : Program} {h h' : AHeap} (k : h.le h') {t : TypeId} {x v : Value} (e : lenE P h t x = some v) : lenE P h' t x = some v := by
  unfold lenE at e ⊢
  split at e
  · exact e
  · exact e
  · exact e
  · exact e
  · split at e
    · exact e
    · split at e
      · rename_i ho
        rw [k.2 _ _ ho]; exact e
      · cases e
    · cases e
  · cases e

theorem builtinR_mono {P : Program} {h h' : AHeap} (k : h.le h') {b : Builtin} {ts : Array TypeId} {vs : List Value} {v : Value} (e : builtinR P h b ts vs = some v) : builtinR P h' b ts vs = some v := by
  unfold builtinR at e ⊢
  split at e
  · simp only [Option.bind_eq_some_iff] at e ⊢
    obtain ⟨t, ht, e⟩ := e
    exact ⟨t, ht, lenE_mono k e⟩
  · exact e
  · exact e
  · cases e

theorem mapE_mono {h h' : AHeap} (k : h.le h') {m : Value} {es : List MapEntry} (e : mapE h m = some es) : mapE h' m = some es := by
  unfold mapE at e ⊢
  split at e
  · exact e
  · split at e
    · rename_i ho
      rw [k.2 _ _ ho]; exact e
    · cases e
  · cases e
theorem lookupR_mono {P : Program} {h h' : AHeap} (k : h.le h') {t : TypeId} {m x v : Value} {ok : Bool} (e : lookupR P h t m x ok = some v) : lookupR P h' t m x ok = some v := by
  unfold lookupR at e ⊢
  split at e
  · simp only [Option.bind_eq_some_iff] at e ⊢
    obtain ⟨z, hz, es, hes, e⟩ := e
    exact ⟨z, hz, es, mapE_mono k hes, e⟩
  · cases e
theorem entryR_mono {h h' : AHeap} (k : h.le h') {x v : Value} (e : entryR h x = some v) : entryR h' x = some v := by
  unfold entryR at e ⊢
  split at e
  · split at e
    · rename_i ho
      rw [k.2 _ _ ho]
      simp only []
      split at e
      · rename_i hst hm
        rw [hst, k.2 _ _ hm]; exact e
      · cases e
    · cases e
  · cases e

theorem evalR_mono {P : Program} {h h' : AHeap} (k : h.le h') {s : St} {o : Op} {v : Value} (e : evalR P h s o = some v) : evalR P h' s o = some v := by
  unfold evalR at e ⊢
  rw [k.1]
  split at e
  all_goals first
    | exact e
    | (simp only [Option.bind_eq_some_iff] at e ⊢
       obtain ⟨p, hp, e⟩ := e
       first
       | exact ⟨p, hp, convR_mono k e⟩
       | exact ⟨p, hp, loadR_mono k e⟩
       | exact ⟨p, hp, entryR_mono k e⟩
       | exact ⟨p, hp, builtinR_mono k e⟩)
    | (simp only [Option.bind_eq_some_iff] at e ⊢
       obtain ⟨p, hp, q1, hq1, e⟩ := e
       exact ⟨p, hp, q1, hq1, lookupR_mono k e⟩)
    | (simp only [Option.bind_eq_some_iff] at e ⊢
       obtain ⟨p, hp, q1, hq1, q2, hq2, q3, hq3, e⟩ := e
       exact ⟨p, hp, q1, hq1, q2, hq2, q3, hq3, sliceR_mono k e⟩)

/-- What doesn't hang on the heap. -/
def pureOp : Op → Bool
  | .move _ | .assign _ | .pick _ _ _ | .binOp _ _ _ _ _ | .unOp _ _ _ | .field _ _ _ | .extract _ _ | .index _ _ _ | .nilCheck _ | .fieldAddr _ _ _ | .indexAddr _ _ _ | .build _ _ | .makeInterface _ _ | .makeFunc _ _ _ => true
  | _ => false

theorem evalR_pure {P : Program} {h h' : AHeap} (hb : h'.base = h.base) {s : St} {o : Op} (hp : pureOp o = true) : evalR P h' s o = evalR P h s o := by
  unfold pureOp at hp
  split at hp <;> first | (cases hp; done) | (simp only [evalR, hb])

theorem evalA_base {P : Program} {id b b' : Nat} (hb : b' = b) (s : St) (o : Op) : evalA P id b' s o = evalA P id b s o := by rw [hb]

/-! ### A region whose order is drawn: what hangs on what -/
def edgesOf (o : Oper) : List Nat := o.after.toList.filterMap fun e => if Region.binds .any e then some e.on else none

/-- Operation k must stand ahead of i. -/
inductive Anc (ops : Array Oper) : Nat → Nat → Prop
  | edge (i j : Nat) (o : Oper) : ops[i]? = some o → j ∈ edgesOf o → Anc ops j i
  | step (i j k : Nat) (o : Oper) : Anc ops k j → ops[i]? = some o → j ∈ edgesOf o → Anc ops k i

theorem Anc.trans {ops : Array Oper} {a b c : Nat} (h : Anc ops a b) (k : Anc ops b c) : Anc ops a c := by
  induction k with
  | edge i j o ho hj => exact .step i j a o h ho hj
  | step i j k o _ ho hj ih => exact .step i j a o (ih h) ho hj

def anc1 (acc : List Nat) (o : Oper) : Nat := (edgesOf o).foldl (fun b j => b ||| 2 ^ j ||| acc.getD j 0) 0
def ancs (l : List Oper) : List Nat := l.foldl (fun acc o => acc ++ [anc1 acc o]) []
def an (bits : List Nat) (j i : Nat) : Bool := (bits.getD i 0).testBit j

theorem foldl_bits (acc : List Nat) (j : Nat) : ∀ (es : List Nat) (b : Nat), (es.foldl (fun b e => b ||| 2 ^ e ||| acc.getD e 0) b).testBit j = true → b.testBit j = true ∨ j ∈ es ∨ ∃ e ∈ es, (acc.getD e 0).testBit j = true
  | [], b, h => .inl h
  | e :: es, b, h => by
    rw [List.foldl_cons] at h
    rcases foldl_bits acc j es _ h with h1 | h1 | ⟨e', h1, h2⟩
    · rw [Nat.testBit_or, Nat.testBit_or, Bool.or_eq_true, Bool.or_eq_true, Nat.testBit_two_pow, decide_eq_true_eq] at h1
      rcases h1 with (h1 | h1) | h1
      · exact .inl h1
      · exact .inr (.inl (by simp [h1]))
      · exact .inr (.inr ⟨e, by simp, h1⟩)
    · exact .inr (.inl (by simp [h1]))
    · exact .inr (.inr ⟨e', by simp [h1], h2⟩)

theorem ancs_sound {ops : Array Oper} : ∀ {i j : Nat}, an (ancs ops.toList) j i = true → Anc ops j i := by
  have key : ∀ (l pre : List Oper) (acc : List Nat), pre ++ l = ops.toList → acc.length = pre.length → (∀ i j, an acc j i = true → Anc ops j i) → ∀ i j, an (l.foldl (fun acc o => acc ++ [anc1 acc o]) acc) j i = true → Anc ops j i := by
    intro l
    induction l with
    | nil => intro pre acc _ _ h; exact h
    | cons o l ih =>
      intro pre acc hp hl h
      rw [List.foldl_cons]
      refine ih (pre ++ [o]) _ (by simp [hp]) (by simp [hl]) ?_
      intro i j hij
      unfold an at hij
      by_cases hi : i < acc.length
      · rw [List.getD_eq_getElem?_getD, List.getElem?_append_left hi, ← List.getD_eq_getElem?_getD] at hij
        exact h i j hij
      · by_cases hi2 : i = acc.length
        · subst hi2
          rw [List.getD_eq_getElem?_getD, List.getElem?_append_right (Nat.le_refl _)] at hij
          simp only [Nat.sub_self, List.getElem?_cons_zero, Option.getD_some] at hij
          have ho : ops[acc.length]? = some o := by
            rw [← Array.getElem?_toList, ← hp, hl, List.getElem?_append_right (Nat.le_refl _)]; simp
          rcases foldl_bits acc j _ _ hij with h1 | h1 | ⟨e, h1, h2⟩
          · simp at h1
          · exact .edge _ _ o ho h1
          · exact .step _ e j o (h e j h2) ho h1
        · rw [List.getD_eq_getElem?_getD, List.getElem?_eq_none (by simp; omega)] at hij
          simp at hij
  intro i j hij
  exact key ops.toList [] [] rfl rfl (fun i j h => by simp [an] at h) i j hij

/-! ### The plan of such a region -/
inductive PItem
  | n (i : Nat) (ts : List Nat)
  | w (i : Nat) (ts rs : List Nat)

def PItem.idx : PItem → Nat
  | .n i _ => i
  | .w i _ _ => i
def PItem.ts : PItem → List Nat
  | .n _ ts => ts
  | .w _ ts _ => ts

def dstAt (ops : Array Oper) (i : Nat) : Option Nat := (ops[i]?).bind (·.dst)
def edgesAt (ops : Array Oper) (i : Nat) : List Nat := match ops[i]? with | some o => edgesOf o | none => []
def pureAt (ops : Array Oper) (i : Nat) : Bool := match ops[i]? with | some o => pureOp o.op | none => true

def planGo (ops : Array Oper) (bits : List Nat) : List Nat → Option Nat → List PItem → Bool
  | _, _, [] => true
  | seen, lastW, .n i ts :: l =>
    (edgesAt ops i).all (seen.contains ·) && !seen.contains i && decide (i < ops.size) && (match lastW with | none => true | some k => an bits k i) && planGo ops bits (i :: seen) lastW l
  | seen, lastW, .w i ts rs :: l =>
    (edgesAt ops i).all (seen.contains ·) && !seen.contains i && decide (i < ops.size) && (match lastW with | none => true | some k => an bits k i) &&
    seen.all (fun j => an bits j i || rs.contains j || pureAt ops j) && planGo ops bits (i :: seen) (some i) l

/-- Each slot has one writer; who reads it stands in order to its writer. -/
def slotsOk (ops : Array Oper) (bits : List Nat) (items : List PItem) : Bool :=
  items.all fun a => items.all fun b => a.idx == b.idx ||
    (match dstAt ops b.idx with
     | some d => dstAt ops a.idx != some d && (!a.ts.contains d || an bits b.idx a.idx || an bits a.idx b.idx)
     | none => true)

def planOk (ops : Array Oper) (items : List PItem) : Bool :=
  let bits := ancs ops.toList
  planGo ops bits [] none items && decide (items.length = ops.size) && (List.range ops.size).all (fun i => (items.map PItem.idx).contains i && (edgesAt ops i).all (· < i)) && slotsOk ops bits items
end Ab
end

section
namespace Ab
open Go
set_option autoImplicit false
set_option linter.unusedVariables false
set_option linter.unusedSimpArgs false

def onlyL (l : List (Nat × Value)) : List Nat → List (Nat × Value)
  | [] => []
  | t :: ts => match lk l t with
    | some v => (t, v) :: onlyL l ts
    | none => onlyL l ts

def St.only (s : St) (ts : List Nat) : St := ⟨s.n, onlyL s.l ts⟩

theorem only_get (s : St) : ∀ (ts : List Nat) (t : Nat) (v : Value), (s.only ts).get t = some v → t ∈ ts ∧ s.get t = some v
  | [], t, v, h => by cases h
  | u :: ts, t, v, h => by
    have e0 : (s.only (u :: ts)).get t = match lk s.l u with | some x => (if u = t then some x else (s.only ts).get t) | none => (s.only ts).get t := by
      unfold St.only St.get
      simp only [onlyL]
      cases hq : lk s.l u <;> simp only [lk]
    rw [e0] at h
    split at h
    · rename_i x hu
      split at h
      · rename_i e; subst e; obtain rfl := Option.some.inj h; exact ⟨by simp, hu⟩
      · obtain ⟨h1, h2⟩ := only_get s ts t v h
        exact ⟨by simp [h1], h2⟩
    · obtain ⟨h1, h2⟩ := only_get s ts t v h
      exact ⟨by simp [h1], h2⟩

/-- What an operation has come to. -/
inductive Ent
  | skip (s : St)
  | r (s : St) (v : Value)
  | a (s : St) (v : Value) (id : Nat) (ob : AObj)
  | w (v : Value)

def Ent.val : Ent → Value
  | .skip _ => undef
  | .r _ v => v
  | .a _ v _ _ => v
  | .w v => v

/-- What was read, or made, ahead of a writing that it needn't stand ahead of: it is so behind it, too. -/
def still (P : Program) (ops : Array Oper) (h : AHeap) : List (Nat × Ent) → List Nat → Prop
  | [], _ => True
  | (j, e) :: l, rs => (if rs.contains j then
      match e with
      | .r s v => (match ops[j]? with | some o => evalR P h s o.op = some v | none => True)
      | .a _ _ id ob => h.obj id = some ob
      | _ => True
    else True) ∧ still P ops h l rs

def awpD (P : Program) (ops : Array Oper) (Q : St → AHeap → Prop) : List PItem → List (Nat × Ent) → St → AHeap → Prop
  | [], _, s, h => Q s h
  | .n i ts :: l, rc, s, h => match ops[i]? with
    | none => False
    | some o => dstOk s o.dst = true ∧ match guardA ops (s.only ts) o.guard with
      | some false => awpD P ops Q l ((i, .skip (s.only ts)) :: rc) (putO s o.dst undef) h
      | some true => match evalR P h (s.only ts) o.op with
        | some v => awpD P ops Q l ((i, .r (s.only ts) v) :: rc) (putO s o.dst v) h
        | none => match evalA P h.next h.base (s.only ts) o.op with
          | some (v, ob) => awpD P ops Q l ((i, .a (s.only ts) v h.next ob) :: rc) (putO s o.dst v) (h.push ob)
          | none => False
      | none => False
  | .w i ts rs :: l, rc, s, h => match ops[i]? with
    | none => False
    | some o => dstOk s o.dst = true ∧ match guardA ops (s.only ts) o.guard with
      | some false => awpD P ops Q l ((i, .skip (s.only ts)) :: rc) (putO s o.dst undef) h
      | some true => stepA P o (s.only ts) h fun v h' => still P ops h' rc rs ∧ awpD P ops Q l ((i, .w v) :: rc) (putO s o.dst v) h'
      | none => False

theorem still_mem {P : Program} {ops : Array Oper} {h : AHeap} : ∀ {rc : List (Nat × Ent)} {rs : List Nat}, still P ops h rc rs → ∀ {j : Nat} {e : Ent}, (j, e) ∈ rc → rs.contains j = true →
    match e with
    | .r s v => (match ops[j]? with | some o => evalR P h s o.op = some v | none => True)
    | .a _ _ id ob => h.obj id = some ob
    | _ => True
  | [], _, _, _, _, hm, _ => by cases hm
  | (j', e') :: l, rs, hs, j, e, hm, hc => by
    obtain ⟨h1, h2⟩ := hs
    rcases List.mem_cons.1 hm with h | h
    · cases h; rw [if_pos hc] at h1; exact h1
    · exact still_mem h2 h hc

/-- The value of a slot where just the operations of E are done. -/
def slotOf (ops : Array Oper) (rc : List (Nat × Ent)) (E : Nat → Bool) (s0 : St) (t : Nat) : Option Value :=
  match rc.find? (fun p => dstAt ops p.1 == some t && E p.1) with
  | some p => some p.2.val
  | none => s0.get t

/-- Objects that are told of, and don't lie in memory yet. -/
theorem Rel.ghostPush {M : Mp} {h : AHeap} {w : World} (r : Rel M h w) (o : AObj) : Rel M (h.push o) w where
  live := fun i o' b ho hM => by
    simp only [AHeap.push] at ho
    split at ho
    · rename_i e; subst e; rw [r.fresh _ (Nat.le_refl _)] at hM; cases hM
    · exact r.live i o' b ho hM
  inj := fun i j b b' hi hj hMi hMj e => by
    simp only [AHeap.push] at hi hj
    split at hi
    · rename_i e1; subst e1; rw [r.fresh _ (Nat.le_refl _)] at hMi; cases hMi
    · split at hj
      · rename_i e1; subst e1; rw [r.fresh _ (Nat.le_refl _)] at hMj; cases hMj
      · exact r.inj i j b b' hi hj hMi hMj e
  fresh := fun i hi => r.fresh i (by have : h.next + 1 ≤ i := hi; omega)
  glob := r.glob
  inb := r.inb
  ble := Nat.le_trans r.ble (Nat.le_succ _)
  bnd := fun i hi => by
    have hi' : h.next + 1 ≤ i := hi
    simp only [AHeap.push]; rw [if_neg (by omega)]; exact r.bnd i (by omega)
  oldro := fun i o' hi hio => by
    have hi' : i < h.base := hi
    have hble := r.ble
    simp only [AHeap.push] at hio
    rw [if_neg (by omega)] at hio
    exact r.oldro i o' hi' hio
  nb := r.nb
  b0 := r.b0

theorem Post.ghostPush {M0 M : Mp} {h0 h : AHeap} {w0 w : World} (p : Post M0 h0 w0 M h w) (r : Rel M h w) (o : AObj) : Post M0 h0 w0 M (h.push o) w :=
  ⟨p.ext, p.ghost, Nat.le_trans p.next (Nat.le_succ _), p.base, p.size, p.os, p.tape, p.output, p.frame, p.old, fun i b hi hM => by
    simp only [AHeap.push] at hi
    split at hi
    · rename_i e; subst e; rw [r.fresh _ (Nat.le_refl _)] at hM; cases hM
    · exact p.grow i b hi hM⟩

/-- Such an object is laid. -/
theorem Rel.ghostAlloc {M : Mp} {h : AHeap} {w w1 : World} (r : Rel M h w) (e1 : w1.heap = w.heap) {id : Nat} {o : AObj} {co : Obj} {sz esz : Nat} {op : Bool} (hid : id < h.next) (hM : M id = none) (ho : h.obj id = some o)
    (hb : ObjRel (upd M id ⟨w.heap.size, 0, sz, esz, op⟩) ⟨w.heap.size, 0, sz, esz, op⟩ ({ w1 with heap := w.heap.push co } : World) o) :
    Rel (upd M id ⟨w.heap.size, 0, sz, esz, op⟩) h ({ w1 with heap := w.heap.push co } : World) := by
  have hle := upd_le (b := ⟨w.heap.size, 0, sz, esz, op⟩) hM
  have hold : ∀ k, k < w.heap.size → (w.heap.push co)[k]? = w.heap[k]? := fun k hk => by rw [Array.getElem?_push, if_neg (by omega)]
  constructor
  · intro i o' b hi hMi
    by_cases e : i = id
    · subst e
      rw [ho] at hi; obtain rfl := Option.some.inj hi
      rw [upd_self] at hMi; obtain rfl := Option.some.inj hMi
      exact hb
    · simp only [upd, if_neg e] at hMi
      exact (r.live i o' b hi hMi).mono hle (hold _ (r.inb i b hMi))
  · intro i j b b' hi hj hMi hMj e
    simp only [upd] at hMi hMj
    by_cases ei : i = id <;> by_cases ej : j = id
    · rw [ei, ej]
    · rw [if_pos ei] at hMi; rw [if_neg ej] at hMj
      obtain rfl := Option.some.inj hMi
      have := r.inb j b' hMj; simp only [] at e; omega
    · rw [if_neg ei] at hMi; rw [if_pos ej] at hMj
      obtain rfl := Option.some.inj hMj
      have := r.inb i b hMi; simp only [] at e; omega
    · rw [if_neg ei] at hMi; rw [if_neg ej] at hMj
      exact r.inj i j b b' hi hj hMi hMj e
  · intro i hi
    simp only [upd, if_neg (show ¬ i = id by omega)]
    exact r.fresh i hi
  · intro i hi
    obtain ⟨b, h1, h2⟩ := r.glob i hi
    exact ⟨b, hle _ _ h1, h2⟩
  · intro i b hMi
    simp only [upd] at hMi
    split at hMi
    · obtain rfl := Option.some.inj hMi; simp
    · have := r.inb i b hMi; simp; omega
  · exact r.ble
  · exact r.bnd
  · exact r.oldro
  · intro i b hi hMi
    simp only [upd] at hMi
    split at hMi
    · obtain rfl := Option.some.inj hMi; exact r.bsz
    · exact r.nb i b hi hMi
  · intro i b hMi ho
    simp only [upd] at hMi
    split at hMi
    · obtain rfl := Option.some.inj hMi; rfl
    · exact r.b0 i b hMi ho

theorem Post.ghostAlloc {M0 M : Mp} {h0 h : AHeap} {w0 w w1 : World} (p : Post M0 h0 w0 M h w) {id : Nat} {co : Obj} {sz esz : Nat} {op : Bool} (e1 : w1.os = w.os) (e2 : w1.tape = w.tape) (e3 : w1.output = w.output)
    (hid : h0.next ≤ id) (hM : M id = none) (hb0 : h0.base ≤ w0.heap.size) : Post M0 h0 w0 (upd M id ⟨w.heap.size, 0, sz, esz, op⟩) h ({ w1 with heap := w.heap.push co } : World) where
  ext := p.ext.trans (upd_le hM)
  ghost := fun i hi hn => by simp only [upd, if_neg (show ¬ i = id by omega)]; exact p.ghost i hi hn
  next := p.next
  base := p.base
  size := by have := p.size; simp; omega
  os := e1.trans p.os
  tape := e2.trans p.tape
  output := e3.trans p.output
  frame := fun k hk hu => by
    have := p.size
    show (w.heap.push co)[k]? = _
    rw [Array.getElem?_push, if_neg (by omega)]
    exact p.frame k hk hu
  old := fun k hk => by
    have := p.size
    show (w.heap.push co)[k]? = _
    rw [Array.getElem?_push, if_neg (by omega)]
    exact p.old k hk
  grow := fun i b hi hMi => by
    simp only [upd] at hMi
    split at hMi
    · obtain rfl := Option.some.inj hMi; exact .inl p.size
    · exact p.grow i b hi hMi
end Ab
end

section
namespace Ab
open Go
set_option autoImplicit false
set_option linter.unusedVariables false
set_option linter.unusedSimpArgs false

/-- What is laid of an operation that the abstract run has done, and the machine hasn't. -/
def Pend (P : Program) (ops : Array Oper) (n0 : Nat) (h : AHeap) (M : Mp) (i : Nat) (e : Ent) : Prop :=
  ∃ o, ops[i]? = some o ∧ match e with
    | .skip s => guardA ops s o.guard = some false
    | .r s v => guardA ops s o.guard = some true ∧ evalR P h s o.op = some v
    | .a s v id ob => guardA ops s o.guard = some true ∧ evalA P id h.base s o.op = some (v, ob) ∧ h.obj id = some ob ∧ M id = none ∧ id < h.next ∧ n0 ≤ id
    | .w _ => False

def Ent.id? : Ent → Option Nat
  | .a _ _ id _ => some id
  | _ => none

def Ent.env : Ent → Option St
  | .skip s => some s
  | .r s _ => some s
  | .a s _ _ _ => some s
  | .w _ => none

/-- The facts of a plan. -/
structure Plan (ops : Array Oper) (items : List PItem) : Prop where
  all : ∀ i, i < ops.size → ∃ it ∈ items, it.idx = i
  lt : ∀ it ∈ items, it.idx < ops.size
  low : ∀ i, i < ops.size → ∀ j ∈ edgesAt ops i, j < i
  slots : ∀ a ∈ items, ∀ b ∈ items, a.idx ≠ b.idx → ∀ d, dstAt ops b.idx = some d → dstAt ops a.idx ≠ some d ∧ (d ∈ a.ts → Anc ops b.idx a.idx ∨ Anc ops a.idx b.idx)

/-- The middle of a region: `L` tells which operations the machine has done; `rc`: what the abstract run has. -/
structure Mid (P : Program) (ops : Array Oper) (items : List PItem) (M0 : Mp) (h0 : AHeap) (w0 : World) (s0 : St) (L : Nat → Bool) (rc : List (Nat × Ent)) (l : List PItem) (s : St) (h : AHeap) (M : Mp) (a : Act) (w : World) : Prop where
  rel : Rel M h w
  post : Post M0 h0 w0 M h w
  b0 : h0.base ≤ w0.heap.size
  defers : a.defers = []
  size : a.tmps.size = s0.n
  sn : s.n = s0.n
  slots : ∀ t v, slotOf ops rc L s0 t = some v → VRel M v (a.tmps.getD t undef)
  abs : ∀ t, s.get t = slotOf ops rc (fun _ => true) s0 t
  sub : ∀ i, L i = true → ∃ e, (i, e) ∈ rc
  pend : ∀ i e, (i, e) ∈ rc → L i = false → Pend P ops h0.next h M i e
  nodup : (rc.map (·.1)).Nodup
  ids : ∀ i e j e', (i, e) ∈ rc → (j, e') ∈ rc → i ≠ j → ∀ x, e.id? = some x → e'.id? ≠ some x
  idlt : ∀ i e, (i, e) ∈ rc → ∀ x, e.id? = some x → x < h.next
  down : ∀ i j, L i = true → Anc ops j i → L j = true
  rcdown : ∀ pre i e suf, rc = pre ++ (i, e) :: suf → ∀ j, Anc ops j i → ∃ e', (j, e') ∈ suf
  env : ∀ pre i e suf, rc = pre ++ (i, e) :: suf → ∃ it ∈ items, it.idx = i ∧ ∀ se, e.env = some se → ∀ t v, se.get t = some v → t ∈ it.ts ∧ slotOf ops suf (fun _ => true) s0 t = some v
  envn : ∀ i e, (i, e) ∈ rc → ∀ se, e.env = some se → se.n = s0.n
  dst : ∀ i e, (i, e) ∈ rc → ∀ o, ops[i]? = some o → ∀ d, o.dst = some d → d < s0.n
  split : ∀ it ∈ items, (∃ e, (it.idx, e) ∈ rc) ∨ it ∈ l

theorem slotOf_none {ops : Array Oper} {rc : List (Nat × Ent)} {E : Nat → Bool} {s0 : St} {t : Nat} (h : ∀ i e, (i, e) ∈ rc → dstAt ops i = some t → E i = false) : slotOf ops rc E s0 t = s0.get t := by
  unfold slotOf
  have : rc.find? (fun p => dstAt ops p.1 == some t && E p.1) = none := by
    rw [List.find?_eq_none]
    rintro ⟨i, e⟩ hm
    simp only [Bool.and_eq_true, beq_iff_eq, not_and, Bool.not_eq_true]
    exact fun hd => h i e hm hd
  rw [this]

theorem slotOf_some {ops : Array Oper} {rc : List (Nat × Ent)} {E : Nat → Bool} {s0 : St} {t j : Nat} {e : Ent} (hm : (j, e) ∈ rc) (hd : dstAt ops j = some t) (hE : E j = true)
    (hu : ∀ i e', (i, e') ∈ rc → dstAt ops i = some t → i = j) (hn : (rc.map (·.1)).Nodup) : slotOf ops rc E s0 t = some e.val := by
  unfold slotOf
  cases hf : rc.find? (fun p => dstAt ops p.1 == some t && E p.1) with
  | none =>
    rw [List.find?_eq_none] at hf
    have := hf (j, e) hm
    simp [hd, hE] at this
  | some p =>
    obtain ⟨i, e'⟩ := p
    have hmem := List.mem_of_find?_eq_some hf
    have hp := List.find?_some hf
    simp only [Bool.and_eq_true, beq_iff_eq] at hp
    have hij := hu i e' hmem hp.1
    subst hij
    have : e' = e := by
      clear hf
      induction rc with
      | nil => cases hm
      | cons q rc ih =>
        simp only [List.map_cons, List.nodup_cons] at hn
        rcases List.mem_cons.1 hm with h1 | h1 <;> rcases List.mem_cons.1 hmem with h2 | h2
        · rw [← h1] at h2; cases h2; rfl
        · exfalso; apply hn.1; rw [← h1]; exact List.mem_map.2 ⟨_, h2, rfl⟩
        · exfalso; apply hn.1; rw [← h2]; exact List.mem_map.2 ⟨_, h1, rfl⟩
        · exact ih hn.2 h2 h1 (fun i e' hm => hu i e' (List.mem_cons_of_mem _ hm))
    rw [this]

section
variable {P : Program} {ops : Array Oper} {items : List PItem} {M0 : Mp} {h0 : AHeap} {w0 : World} {s0 : St} {L : Nat → Bool} {rc : List (Nat × Ent)} {l : List PItem} {s : St} {h : AHeap} {M : Mp} {a : Act} {w : World}

/-- Who writes a slot is one. -/
theorem Mid.writer (m : Mid P ops items M0 h0 w0 s0 L rc l s h M a w) (pl : Plan ops items) {i j : Nat} {e e' : Ent} {t : Nat} (hi : (i, e) ∈ rc) (hj : (j, e') ∈ rc) (hdi : dstAt ops i = some t) (hdj : dstAt ops j = some t) : i = j := by
  by_cases hij : i = j
  · exact hij
  · exfalso
    obtain ⟨p1, s1, h1⟩ := List.append_of_mem hi
    obtain ⟨p2, s2, h2⟩ := List.append_of_mem hj
    obtain ⟨a1, ha1, rfl, _⟩ := m.env p1 i e s1 h1
    obtain ⟨a2, ha2, rfl, _⟩ := m.env p2 j e' s2 h2
    exact (pl.slots a1 ha1 a2 ha2 hij t hdj).1 hdi

theorem nodup_split {pre suf : List (Nat × Ent)} {i : Nat} {e : Ent} (hn : ((pre ++ (i, e) :: suf).map (·.1)).Nodup) : (∀ e', (i, e') ∉ suf) ∧ (∀ e', (i, e') ∉ pre) := by
  simp only [List.map_append, List.map_cons] at hn
  rw [List.nodup_append] at hn
  obtain ⟨h1, h2, h3⟩ := hn
  rw [List.nodup_cons] at h2
  refine ⟨fun e' hm => h2.1 (List.mem_map.2 ⟨_, hm, rfl⟩), fun e' hm => ?_⟩
  exact h3 i (List.mem_map.2 ⟨_, hm, rfl⟩) i (by simp) rfl

/-- The operands of an operation that is ready are what they were in the abstract run. -/
theorem Mid.ready (m : Mid P ops items M0 h0 w0 s0 L rc l s h M a w) (pl : Plan ops items) {pre suf : List (Nat × Ent)} {it : PItem} (hit : it ∈ items)
    (hrc : rc = pre ++ suf) (hnot : ∀ e, (it.idx, e) ∉ suf) (hL : L it.idx = false) (hr : ∀ j, Anc ops j it.idx → L j = true) (hsuf : ∀ j, Anc ops j it.idx → ∃ e, (j, e) ∈ suf)
    {t : Nat} (ht : t ∈ it.ts) : slotOf ops rc L s0 t = slotOf ops suf (fun _ => true) s0 t := by
  have hnd : (suf.map (·.1)).Nodup := by
    have := m.nodup
    rw [hrc, List.map_append, List.nodup_append] at this
    exact this.2.1
  by_cases hw : ∃ j e, (j, e) ∈ rc ∧ dstAt ops j = some t ∧ j ≠ it.idx
  · obtain ⟨j, e, hj, hd, hne⟩ := hw
    obtain ⟨p1, s1, h1⟩ := List.append_of_mem hj
    obtain ⟨b, hb, rfl, _⟩ := m.env p1 j e s1 h1
    rcases (pl.slots it hit b hb (Ne.symm hne) t hd).2 ht with hanc | hanc
    · -- the writer stands ahead
      obtain ⟨e2, he2⟩ := hsuf _ hanc
      have hmem : (b.idx, e2) ∈ rc := by rw [hrc]; exact List.mem_append_right _ he2
      have hu : ∀ i e', (i, e') ∈ rc → dstAt ops i = some t → i = b.idx := fun i e' hi hdi => m.writer pl hi hmem hdi hd
      rw [slotOf_some hmem hd (hr _ hanc) hu m.nodup, slotOf_some he2 hd rfl (fun i e' hi hdi => hu i e' (by rw [hrc]; exact List.mem_append_right _ hi) hdi) hnd]
    · -- the writer stands behind: neither has done it
      have hLb : L b.idx = false := by
        cases hb2 : L b.idx with
        | false => rfl
        | true => have := m.down _ _ hb2 hanc; rw [hL] at this; cases this
      have hbs : ∀ e', (b.idx, e') ∉ suf := by
        intro e' hm
        obtain ⟨p2, s2, h2⟩ := List.append_of_mem hm
        obtain ⟨e3, h3⟩ := m.rcdown (pre ++ p2) b.idx e' s2 (by rw [hrc, h2, List.append_assoc]) _ hanc
        exact hnot e3 (by rw [h2]; exact List.mem_append_right _ (List.mem_cons_of_mem _ h3))
      rw [slotOf_none, slotOf_none]
      · intro i e' hi hdi
        exfalso
        have : i = b.idx := m.writer pl (by rw [hrc]; exact List.mem_append_right _ hi) hj hdi hd
        subst this
        exact hbs _ hi
      · intro i e' hi hdi
        have : i = b.idx := m.writer pl hi hj hdi hd
        subst this; exact hLb
  · have hw2 : ∀ i e, (i, e) ∈ rc → dstAt ops i = some t → i = it.idx := fun i e hi hd => by
      by_cases hx : i = it.idx
      · exact hx
      · exact absurd ⟨i, e, hi, hd, hx⟩ hw
    rw [slotOf_none, slotOf_none]
    · intro i e hi hd
      have := hw2 i e (by rw [hrc]; exact List.mem_append_right _ hi) hd
      subst this
      exact absurd hi (hnot e)
    · intro i e hi hd
      have := hw2 i e hi hd
      subst this; exact hL

/-- So an operation's operands are related. -/
theorem Mid.srel (m : Mid P ops items M0 h0 w0 s0 L rc l s h M a w) {se : St} (hn : se.n = s0.n) (hg : ∀ t v, se.get t = some v → slotOf ops rc L s0 t = some v) : SRel M se a :=
  ⟨m.defers, m.size.trans hn.symm, fun t v ht => m.slots t v (hg t v ht)⟩

/-- A slot is written. -/
theorem Mid.put (m : Mid P ops items M0 h0 w0 s0 L rc l s h M a w) (pl : Plan ops items) {i : Nat} {e : Ent} {o : Oper} (hi : (i, e) ∈ rc) (ho : ops[i]? = some o) {M' : Mp} (hle : M.le M') {vc : Value} (hv : VRel M' e.val vc) :
    ∀ t v, slotOf ops rc (fun j => L j || j == i) s0 t = some v → VRel M' v ((a.put o.dst vc).tmps.getD t undef) := by
  intro t v hs
  by_cases hd : dstAt ops i = some t
  · have hd2 : o.dst = some t := by unfold dstAt at hd; rw [ho] at hd; exact hd
    rw [slotOf_some hi hd (by simp) (fun j e' hj hdj => m.writer pl hj hi hdj hd) m.nodup] at hs
    obtain rfl := Option.some.inj hs
    have hlt : t < a.tmps.size := by rw [m.size]; exact m.dst i e hi o ho t hd2
    rw [hd2]
    simpa [Act.put, Array.getD, hlt] using hv
  · have e1 : slotOf ops rc (fun j => L j || j == i) s0 t = slotOf ops rc L s0 t := by
      unfold slotOf
      have : rc.find? (fun p => dstAt ops p.1 == some t && (L p.1 || p.1 == i)) = rc.find? (fun p => dstAt ops p.1 == some t && L p.1) := by
        congr 1
        funext p
        by_cases hp : p.1 = i
        · rw [hp]
          have : (dstAt ops i == some t) = false := by simpa using hd
          simp [this]
        · have : (p.1 == i) = false := by simpa using hp
          simp [this]
      rw [this]
    rw [e1] at hs
    have h2 := (m.slots t v hs).mono hle
    have e2 : (a.put o.dst vc).tmps.getD t undef = a.tmps.getD t undef := by
      cases hod : o.dst with
      | none => rfl
      | some d =>
        have hne : d ≠ t := by
          rintro rfl
          apply hd; unfold dstAt; rw [ho]; exact hod
        show (a.tmps.setIfInBounds d vc).getD t undef = _
        rw [Array.getD_eq_getD_getElem?, Array.getD_eq_getD_getElem?, Array.getElem?_setIfInBounds_ne hne]
    rw [e2]; exact h2
end
end Ab
end

section
namespace Ab
open Go
set_option autoImplicit false
set_option linter.unusedVariables false
set_option linter.unusedSimpArgs false

section
variable {P : Program} {ops : Array Oper} {items : List PItem} {M0 : Mp} {h0 : AHeap} {w0 : World} {s0 : St} {L : Nat → Bool} {rc : List (Nat × Ent)} {l : List PItem} {s : St} {h : AHeap} {M : Mp} {a : Act} {w : World}

/-- The bookkeeping behind an operation that the machine has done, which the abstract run had done: all but the memory and the slots. -/
theorem Mid.done (m : Mid P ops items M0 h0 w0 s0 L rc l s h M a w) {i : Nat} {e : Ent} (hi : (i, e) ∈ rc) (hr : ∀ j, Anc ops j i → L j = true) {M' : Mp} {a' : Act} {w' : World}
    (rel : Rel M' h w') (post : Post M0 h0 w0 M' h w') (hd : a'.defers = []) (hs : a'.tmps.size = s0.n)
    (slots : ∀ t v, slotOf ops rc (fun j => L j || j == i) s0 t = some v → VRel M' v (a'.tmps.getD t undef))
    (hM : ∀ j e', (j, e') ∈ rc → j ≠ i → L j = false → ∀ x, e'.id? = some x → M x = none → M' x = none) :
    Mid P ops items M0 h0 w0 s0 (fun j => L j || j == i) rc l s h M' a' w' where
  rel := rel
  post := post
  b0 := m.b0
  defers := hd
  size := hs
  sn := m.sn
  slots := slots
  abs := m.abs
  sub := fun j hj => by
    simp only [Bool.or_eq_true, beq_iff_eq] at hj
    rcases hj with hj | rfl
    · exact m.sub j hj
    · exact ⟨e, hi⟩
  pend := fun j e' hj hL => by
    simp only [Bool.or_eq_false_iff, beq_eq_false_iff_ne] at hL
    obtain ⟨o, ho, hp⟩ := m.pend j e' hj hL.1
    refine ⟨o, ho, ?_⟩
    cases e' with
    | skip s => exact hp
    | r s v => exact hp
    | w v => exact hp
    | a s v id ob =>
      obtain ⟨p1, p2, p3, p4, p5, p6⟩ := hp
      exact ⟨p1, p2, p3, hM j _ hj hL.2 hL.1 id rfl p4, p5, p6⟩
  nodup := m.nodup
  ids := m.ids
  idlt := m.idlt
  down := fun x j hx hj => by
    simp only [Bool.or_eq_true, beq_iff_eq] at hx ⊢
    rcases hx with hx | rfl
    · exact .inl (m.down x j hx hj)
    · exact .inl (hr j hj)
  rcdown := m.rcdown
  env := m.env
  envn := m.envn
  dst := m.dst
  split := m.split

/-- The machine does an operation that the abstract run has done. -/
theorem Mid.pending (m : Mid P ops items M0 h0 w0 s0 L rc l s h M a w) (pl : Plan ops items) {i : Nat} {e : Ent} (hi : (i, e) ∈ rc) (hL : L i = false) (hr : ∀ j, Anc ops j i → L j = true)
    {K : Act → World → Prop} {Qc : Exit → Act → World → Prop} (hK : ∀ M' a' w', Mid P ops items M0 h0 w0 s0 (fun j => L j || j == i) rc l s h M' a' w' → K a' w') : wpOp P ops Qc i K a w := by
  obtain ⟨o, ho, hp⟩ := m.pend i e hi hL
  obtain ⟨pre, suf, hsplit⟩ := List.append_of_mem hi
  obtain ⟨it, hit, hidx, henv⟩ := m.env pre i e suf hsplit
  subst hidx
  have hnd := nodup_split (hsplit ▸ m.nodup)
  have hsr : ∀ se, e.env = some se → SRel M se a := fun se hse => m.srel (m.envn _ e hi se hse) fun t v ht => by
    obtain ⟨h1, h2⟩ := henv se hse t v ht
    rw [m.ready pl (pre := pre ++ [(it.idx, e)]) (suf := suf) hit (by rw [hsplit, List.append_assoc]; rfl) hnd.1 hL hr (fun j hj => m.rcdown pre it.idx e suf hsplit j hj) h1]
    exact h2
  unfold Go.wpOp
  simp only [ho]
  cases e with
  | w v => exact hp.elim
  | skip se =>
    have sr := hsr se rfl
    rw [guardA_sound sr hp, if_neg (by simp)]
    refine hK M _ w (m.done hi hr m.rel m.post ?_ ?_ (m.put pl hi ho .rfl (VRel.undef M)) (fun _ _ _ _ _ _ _ h => h))
    · cases o.dst <;> exact m.defers
    · cases hd : o.dst <;> simp [Act.put, m.size]
  | r se v =>
    obtain ⟨hg, hv⟩ := hp
    have sr := hsr se rfl
    rw [guardA_sound sr hg, if_pos rfl]
    left
    obtain ⟨w', vc, h1, h2, h3, h4⟩ := evalR_sound sr m.rel hv
    unfold Oper.wp
    rw [h1]
    refine hK M _ w' (m.done hi hr h3 (m.post.trans h4) ?_ ?_ (m.put pl hi ho .rfl h2) (fun _ _ _ _ _ _ _ h => h))
    · cases o.dst <;> exact m.defers
    · cases hd : o.dst <;> simp [Act.put, m.size]
  | a se v id ob =>
    obtain ⟨hg, hv, hob, hMid, hid, hn0⟩ := hp
    have sr := hsr se rfl
    rw [guardA_sound sr hg, if_pos rfl]
    left
    obtain ⟨vc, w1, co, sz, esz, op, h1, g1, g2, g3, g4, h2⟩ := evalA_sound sr m.rel hv
    unfold Oper.wp
    rw [h1]
    have hk := h2 (upd M id ⟨w.heap.size, 0, sz, esz, op⟩) (upd_le hMid) (upd_self _ _ _)
    refine hK _ _ _ (m.done hi hr (m.rel.ghostAlloc g1 hid hMid hob hk.2) (m.post.ghostAlloc g2 g3 g4 hn0 hMid m.b0) ?_ ?_ (m.put pl hi ho (upd_le hMid) hk.1) ?_)
    · cases o.dst <;> exact m.defers
    · cases hd : o.dst <;> simp [Act.put, m.size]
    · intro j e' hj hne hLj x hx hMx
      have : x ≠ id := fun e1 => m.ids j e' it.idx _ hj hi hne x hx (by rw [e1]; rfl)
      simp only [upd, if_neg this]; exact hMx

/-- The abstract run does an operation ahead of the machine. -/
theorem Mid.ahead {it : PItem} (m : Mid P ops items M0 h0 w0 s0 L rc (it :: l) s h M a w) (pl : Plan ops items) {o : Oper} (hit : it ∈ items) (ho : ops[it.idx]? = some o) (hnew : ∀ e, (it.idx, e) ∉ rc)
    (hedges : ∀ j, Anc ops j it.idx → ∃ e, (j, e) ∈ rc) (hd : dstOk s o.dst = true) {e : Ent} {h' : AHeap} (hE : L it.idx = false)
    (rel : Rel M h' w) (post : Post M0 h0 w0 M h' w) (hpend : Pend P ops h0.next h' M it.idx e) (hold : ∀ i e', (i, e') ∈ rc → L i = false → Pend P ops h0.next h' M i e')
    (hnext : h.next ≤ h'.next) (hid : ∀ x, e.id? = some x → x = h.next ∧ x < h'.next) (henv : e.env = some (s.only it.ts)) :
    Mid P ops items M0 h0 w0 s0 L ((it.idx, e) :: rc) l (putO s o.dst e.val) h' M a w where
  rel := rel
  post := post
  b0 := m.b0
  defers := m.defers
  size := m.size
  sn := by cases o.dst <;> exact m.sn
  slots := fun t v hs => by
    refine m.slots t v ?_
    rw [← hs]
    unfold slotOf
    rw [List.find?_cons]
    simp only [hE, Bool.and_false]
  abs := fun t => by
    by_cases hdt : dstAt ops it.idx = some t
    · have hd2 : o.dst = some t := by unfold dstAt at hdt; rw [ho] at hdt; exact hdt
      unfold slotOf
      rw [List.find?_cons]
      simp only [hdt, beq_self_eq_true, Bool.and_true]
      rw [hd2]
      simp [putO, St.put, St.get, lk]
    · have e1 : slotOf ops ((it.idx, e) :: rc) (fun _ => true) s0 t = slotOf ops rc (fun _ => true) s0 t := by
        unfold slotOf
        rw [List.find?_cons]
        have : (dstAt ops it.idx == some t && true) = false := by simpa using hdt
        simp only [this]
      rw [e1, ← m.abs t]
      cases hod : o.dst with
      | none => rfl
      | some d =>
        have hne : d ≠ t := by rintro rfl; apply hdt; unfold dstAt; rw [ho]; exact hod
        simp [putO, St.put, St.get, lk, hne]
  sub := fun i hi => by obtain ⟨e', he'⟩ := m.sub i hi; exact ⟨e', List.mem_cons_of_mem _ he'⟩
  pend := fun i e' hi hLi => by
    rcases List.mem_cons.1 hi with h1 | h1
    · cases h1; exact hpend
    · exact hold i e' h1 hLi
  nodup := by
    simp only [List.map_cons, List.nodup_cons]
    refine ⟨fun hm => ?_, m.nodup⟩
    obtain ⟨p, hp, he⟩ := List.mem_map.1 hm
    obtain ⟨i, e'⟩ := p
    simp only [] at he; subst he
    exact hnew e' hp
  ids := fun i e1 j e2 hi hj hne x hx hx2 => by
    rcases List.mem_cons.1 hi with h1 | h1 <;> rcases List.mem_cons.1 hj with h2 | h2
    · cases h1; cases h2; exact hne rfl
    · cases h1
      have := m.idlt j e2 h2 x hx2
      have := (hid x hx).1
      omega
    · cases h2
      have := m.idlt i e1 h1 x hx
      have := (hid x hx2).1
      omega
    · exact m.ids i e1 j e2 h1 h2 hne x hx hx2
  idlt := fun i e1 hi x hx => by
    rcases List.mem_cons.1 hi with h1 | h1
    · cases h1; exact (hid x hx).2
    · exact Nat.lt_of_lt_of_le (m.idlt i e1 h1 x hx) hnext
  down := m.down
  rcdown := fun pre i e1 suf hs j hj => by
    cases pre with
    | nil =>
      simp only [List.nil_append, List.cons.injEq, Prod.mk.injEq] at hs
      obtain ⟨⟨rfl, rfl⟩, rfl⟩ := hs
      exact hedges j hj
    | cons p pre =>
      simp only [List.cons_append, List.cons.injEq] at hs
      exact m.rcdown pre i e1 suf hs.2 j hj
  env := fun pre i e1 suf hs => by
    cases pre with
    | nil =>
      simp only [List.nil_append, List.cons.injEq, Prod.mk.injEq] at hs
      obtain ⟨⟨rfl, rfl⟩, rfl⟩ := hs
      refine ⟨it, hit, rfl, fun se hse t v ht => ?_⟩
      rw [henv] at hse
      obtain rfl := Option.some.inj hse
      obtain ⟨h1, h2⟩ := only_get s it.ts t v ht
      exact ⟨h1, by rw [← m.abs t]; exact h2⟩
    | cons p pre =>
      simp only [List.cons_append, List.cons.injEq] at hs
      exact m.env pre i e1 suf hs.2
  envn := fun i e1 hi se hse => by
    rcases List.mem_cons.1 hi with h1 | h1
    · cases h1
      rw [henv] at hse
      obtain rfl := Option.some.inj hse
      exact m.sn
    · exact m.envn i e1 h1 se hse
  dst := fun i e1 hi o' ho' d hd' => by
    rcases List.mem_cons.1 hi with h1 | h1
    · cases h1
      rw [ho] at ho'; obtain rfl := Option.some.inj ho'
      rw [hd'] at hd
      rw [← m.sn]; exact of_decide_eq_true hd
    · exact m.dst i e1 h1 o' ho' d hd'
  split := fun it' hit' => by
    rcases m.split it' hit' with ⟨e', he'⟩ | hm
    · exact .inl ⟨e', List.mem_cons_of_mem _ he'⟩
    · rcases List.mem_cons.1 hm with rfl | hm
      · exact .inl ⟨e, by simp⟩
      · exact .inr hm
end
end Ab
end

section
namespace Ab
open Go
set_option autoImplicit false
set_option linter.unusedVariables false
set_option linter.unusedSimpArgs false

theorem evalA_notPure {P : Program} {id b : Nat} {s : St} {o : Op} {x : Value × AObj} (h : evalA P id b s o = some x) (hp : pureOp o = true) : False := by
  unfold pureOp at hp
  split at hp <;> first | (cases hp; done) | (simp only [evalA] at h; cases h)

section
variable {P : Program} {ops : Array Oper} {items : List PItem} {M0 : Mp} {h0 : AHeap} {w0 : World} {s0 : St} {L : Nat → Bool} {rc : List (Nat × Ent)} {l : List PItem} {s : St} {h : AHeap} {M : Mp} {a : Act} {w : World}

theorem edges_at {i j : Nat} {o : Oper} (ho : ops[i]? = some o) (hj : j ∈ edgesOf o) : j ∈ edgesAt ops i := by unfold edgesAt; rw [ho]; exact hj

theorem Mid.anc_in (m : Mid P ops items M0 h0 w0 s0 L rc l s h M a w) {i : Nat} (he : ∀ j ∈ edgesAt ops i, ∃ e, (j, e) ∈ rc) : ∀ j, Anc ops j i → ∃ e, (j, e) ∈ rc := by
  intro j hj
  cases hj with
  | edge _ _ o ho hj => exact he j (edges_at ho hj)
  | step _ j' _ o hk ho hj' =>
    obtain ⟨e, hm⟩ := he j' (edges_at ho hj')
    obtain ⟨pre, suf, hs⟩ := List.append_of_mem hm
    obtain ⟨e', he'⟩ := m.rcdown pre j' e suf hs j hk
    exact ⟨e', by rw [hs]; exact List.mem_append_right _ (List.mem_cons_of_mem _ he')⟩

theorem mem_fst {rc : List (Nat × Ent)} {j : Nat} (h : (rc.map (·.1)).contains j = true) : ∃ e, (j, e) ∈ rc := by
  rw [List.contains_iff_mem] at h
  obtain ⟨p, hp, rfl⟩ := List.mem_map.1 h
  exact ⟨p.2, hp⟩

theorem not_mem_fst {rc : List (Nat × Ent)} {j : Nat} (h : (rc.map (·.1)).contains j = false) : ∀ e, (j, e) ∉ rc := by
  intro e hm
  have : (rc.map (·.1)).contains j = true := by rw [List.contains_iff_mem]; exact List.mem_map.2 ⟨_, hm, rfl⟩
  rw [h] at this; cases this

theorem edges_in {i : Nat} (h : (edgesAt ops i).all ((rc.map (·.1)).contains ·) = true) : ∀ j ∈ edgesAt ops i, ∃ e, (j, e) ∈ rc := by
  intro j hj
  rw [List.all_eq_true] at h
  exact mem_fst (h j hj)

theorem Mid.notL (m : Mid P ops items M0 h0 w0 s0 L rc l s h M a w) {i : Nat} (hnew : ∀ e, (i, e) ∉ rc) : L i = false := by
  cases hL : L i with
  | false => rfl
  | true => obtain ⟨e, he⟩ := m.sub i hL; exact absurd he (hnew e)

theorem AHeap.le_push (hb : ∀ i, h.next ≤ i → h.obj i = none) (o : AObj) : h.le (h.push o) := by
  refine ⟨rfl, fun i x hx => ?_⟩
  by_cases hi : h.next ≤ i
  · rw [hb i hi] at hx; cases hx
  · simp only [AHeap.push]; rw [if_neg (by omega)]; exact hx

theorem Pend.push {n0 i : Nat} {e : Ent} (hb : ∀ i, h.next ≤ i → h.obj i = none) (k : Pend P ops n0 h M i e) (o : AObj) : Pend P ops n0 (h.push o) M i e := by
  obtain ⟨op, ho, hp⟩ := k
  refine ⟨op, ho, ?_⟩
  have hnew : ∀ x y, x < h.next → h.obj x = some y → (h.push o).obj x = some y := fun x y hx hy => by
    simp only [AHeap.push]; rw [if_neg (by omega)]; exact hy
  cases e with
  | skip s => exact hp
  | w v => exact hp
  | r s v =>
    exact ⟨hp.1, evalR_mono (AHeap.le_push hb o) hp.2⟩
  | a s v id ob =>
    obtain ⟨p1, p2, p3, p4, p5, p6⟩ := hp
    exact ⟨p1, p2, hnew _ _ p5 p3, p4, Nat.lt_succ_of_lt p5, p6⟩

/-- The abstract run goes ahead as far as nothing is to be written. -/
theorem Mid.eager (pl : Plan ops items) {bits : List Nat} {Q : St → AHeap → Prop} (hbits : ∀ i j, an bits j i = true → Anc ops j i) :
    ∀ (l : List PItem) (rc : List (Nat × Ent)) (lastW : Option Nat) (s : St) (h : AHeap), Mid P ops items M0 h0 w0 s0 L rc l s h M a w → (∀ it ∈ l, it ∈ items) → planGo ops bits (rc.map (·.1)) lastW l = true → awpD P ops Q l rc s h →
      ∃ rc' l' s' h', Mid P ops items M0 h0 w0 s0 L rc' l' s' h' M a w ∧ (∀ it ∈ l', it ∈ items) ∧ planGo ops bits (rc'.map (·.1)) lastW l' = true ∧ awpD P ops Q l' rc' s' h' ∧ (l' = [] ∨ ∃ i ts rs l2, l' = .w i ts rs :: l2)
  | [], rc, lastW, s, h, m, hsub, hp, k => ⟨rc, [], s, h, m, hsub, hp, k, .inl rfl⟩
  | .w i ts rs :: l2, rc, lastW, s, h, m, hsub, hp, k => ⟨rc, _, s, h, m, hsub, hp, k, .inr ⟨i, ts, rs, l2, rfl⟩⟩
  | .n i ts :: l2, rc, lastW, s, h, m, hsub, hp, k => by
    have hp0 := hp
    simp only [planGo, Bool.and_eq_true, Bool.not_eq_true', decide_eq_true_eq] at hp
    obtain ⟨⟨⟨⟨he, hnew⟩, hlt⟩, _⟩, hp⟩ := hp
    have hnew' := not_mem_fst hnew
    have hedges := m.anc_in (edges_in he)
    have hL := m.notL hnew'
    have hit : PItem.n i ts ∈ items := hsub _ (by simp)
    simp only [awpD] at k
    cases ho : ops[i]? with
    | none => rw [ho] at k; exact k.elim
    | some o =>
      rw [ho] at k
      obtain ⟨hd, k⟩ := k
      have go : ∀ (e : Ent) (h' : AHeap), Rel M h' w → Post M0 h0 w0 M h' w → Pend P ops h0.next h' M i e → (∀ i e', (i, e') ∈ rc → L i = false → Pend P ops h0.next h' M i e') → h.next ≤ h'.next → (∀ x, e.id? = some x → x = h.next ∧ x < h'.next) →
          e.env = some (s.only ts) → awpD P ops Q l2 ((i, e) :: rc) (putO s o.dst e.val) h' → _ := fun e h' r1 p1 q1 q2 q3 q4 q5 k' =>
        Mid.eager pl hbits l2 ((i, e) :: rc) lastW _ _ (m.ahead (it := .n i ts) pl hit ho hnew' hedges hd hL r1 p1 q1 q2 q3 q4 q5) (fun it hit => hsub it (by simp [hit])) hp k'
      split at k
      · rename_i hg
        exact go (.skip (s.only ts)) h m.rel m.post ⟨o, ho, hg⟩ m.pend (Nat.le_refl _) (fun x hx => by cases hx) rfl k
      · rename_i hg
        split at k
        · rename_i v hv
          exact go (.r (s.only ts) v) h m.rel m.post ⟨o, ho, hg, hv⟩ m.pend (Nat.le_refl _) (fun x hx => by cases hx) rfl k
        · split at k
          · rename_i v ob hv
            have hnone := m.rel.fresh h.next (Nat.le_refl _)
            refine go (.a (s.only ts) v h.next ob) (h.push ob) (m.rel.ghostPush ob) (m.post.ghostPush m.rel ob) ⟨o, ho, hg, hv, by simp [AHeap.push], hnone, Nat.lt_succ_self _, m.post.next⟩ (fun j e' hj hLj => (m.pend j e' hj hLj).push m.rel.bnd ob) (Nat.le_succ _)
              (fun x hx => by obtain rfl := Option.some.inj hx; exact ⟨rfl, Nat.lt_succ_self _⟩) rfl k
          · exact k.elim
      · exact k.elim

/-- Behind a writing operation all stand in order to it. -/
theorem planGo_anc {bits : List Nat} (hbits : ∀ i j, an bits j i = true → Anc ops j i) : ∀ (l : List PItem) (seen : List Nat) (k : Nat), planGo ops bits seen (some k) l = true → ∀ it ∈ l, Anc ops k it.idx
  | [], _, _, _, it, h => by cases h
  | .n i ts :: l, seen, k, hp, it, h => by
    simp only [planGo, Bool.and_eq_true] at hp
    obtain ⟨⟨_, ha⟩, hp⟩ := hp
    rcases List.mem_cons.1 h with rfl | h
    · exact hbits _ _ ha
    · exact planGo_anc hbits l _ k hp it h
  | .w i ts rs :: l, seen, k, hp, it, h => by
    simp only [planGo, Bool.and_eq_true] at hp
    obtain ⟨⟨⟨_, ha⟩, _⟩, hp⟩ := hp
    rcases List.mem_cons.1 h with rfl | h
    · exact hbits _ _ ha
    · exact (hbits _ _ ha).trans (planGo_anc hbits l _ i hp it h)

/-- A writing operation is done, by both at once. -/
theorem Mid.write {it : PItem} (m : Mid P ops items M0 h0 w0 s0 L rc (it :: l) s h M a w) (pl : Plan ops items) {o : Oper} (hit : it ∈ items) (ho : ops[it.idx]? = some o) (hnew : ∀ e, (it.idx, e) ∉ rc)
    (hedges : ∀ j, Anc ops j it.idx → ∃ e, (j, e) ∈ rc) (hr : ∀ j, Anc ops j it.idx → L j = true) (hd : dstOk s o.dst = true) {v vc : Value} {h' : AHeap} {M' : Mp} {w' : World}
    (rel : Rel M' h' w') (p : Post M h w M' h' w') (hv : VRel M' v vc) (hold : ∀ i e', (i, e') ∈ rc → L i = false → Pend P ops h0.next h' M' i e') :
    Mid P ops items M0 h0 w0 s0 (fun j => L j || j == it.idx) ((it.idx, .w v) :: rc) l (putO s o.dst v) h' M' (a.put o.dst vc) w' where
  rel := rel
  post := m.post.trans p
  b0 := m.b0
  defers := by cases o.dst <;> exact m.defers
  size := by cases hd : o.dst <;> simp [Act.put, m.size]
  sn := by cases o.dst <;> exact m.sn
  slots := fun t u hs => by
    have hE := m.notL hnew
    by_cases hdt : dstAt ops it.idx = some t
    · have hd2 : o.dst = some t := by unfold dstAt at hdt; rw [ho] at hdt; exact hdt
      unfold slotOf at hs
      rw [List.find?_cons] at hs
      simp only [hdt, beq_self_eq_true, Bool.or_true, Bool.and_true, Option.some.injEq, Ent.val] at hs
      subst hs
      have hlt : t < a.tmps.size := by
        rw [m.size, ← m.sn]
        rw [hd2] at hd; exact of_decide_eq_true hd
      rw [hd2]
      simpa [Act.put, Array.getD, hlt] using hv
    · have e1 : slotOf ops ((it.idx, Ent.w v) :: rc) (fun j => L j || j == it.idx) s0 t = slotOf ops rc L s0 t := by
        unfold slotOf
        rw [List.find?_cons]
        have : (dstAt ops it.idx == some t && (L it.idx || it.idx == it.idx)) = false := by
          have : (dstAt ops it.idx == some t) = false := by simpa using hdt
          simp [this]
        simp only [this]
        have e2 : rc.find? (fun p => dstAt ops p.1 == some t && (L p.1 || p.1 == it.idx)) = rc.find? (fun p => dstAt ops p.1 == some t && L p.1) := by
          congr 1
          funext q
          by_cases hq : q.1 = it.idx
          · rw [hq]
            have : (dstAt ops it.idx == some t) = false := by simpa using hdt
            simp [this]
          · have : (q.1 == it.idx) = false := by simpa using hq
            simp [this]
        rw [e2]
      rw [e1] at hs
      have h2 := (m.slots t u hs).mono p.ext
      have e2 : (a.put o.dst vc).tmps.getD t undef = a.tmps.getD t undef := by
        cases hod : o.dst with
        | none => rfl
        | some d =>
          have hne : d ≠ t := by
            rintro rfl
            apply hdt; unfold dstAt; rw [ho]; exact hod
          show (a.tmps.setIfInBounds d vc).getD t undef = _
          rw [Array.getD_eq_getD_getElem?, Array.getD_eq_getD_getElem?, Array.getElem?_setIfInBounds_ne hne]
      rw [e2]; exact h2
  abs := fun t => by
    by_cases hdt : dstAt ops it.idx = some t
    · have hd2 : o.dst = some t := by unfold dstAt at hdt; rw [ho] at hdt; exact hdt
      unfold slotOf
      rw [List.find?_cons]
      simp only [hdt, beq_self_eq_true, Bool.and_true]
      rw [hd2]
      simp [putO, St.put, St.get, lk, Ent.val]
    · have e1 : slotOf ops ((it.idx, Ent.w v) :: rc) (fun _ => true) s0 t = slotOf ops rc (fun _ => true) s0 t := by
        unfold slotOf
        rw [List.find?_cons]
        have : (dstAt ops it.idx == some t && true) = false := by simpa using hdt
        simp only [this]
      rw [e1, ← m.abs t]
      cases hod : o.dst with
      | none => rfl
      | some d =>
        have hne : d ≠ t := by rintro rfl; apply hdt; unfold dstAt; rw [ho]; exact hod
        simp [putO, St.put, St.get, lk, hne]
  sub := fun i hi => by
    simp only [Bool.or_eq_true, beq_iff_eq] at hi
    rcases hi with hi | rfl
    · obtain ⟨e', he'⟩ := m.sub i hi; exact ⟨e', List.mem_cons_of_mem _ he'⟩
    · exact ⟨.w v, by simp⟩
  pend := fun i e' hi hLi => by
    simp only [Bool.or_eq_false_iff, beq_eq_false_iff_ne] at hLi
    rcases List.mem_cons.1 hi with h1 | h1
    · cases h1; exact absurd rfl hLi.2
    · exact hold i e' h1 hLi.1
  nodup := by
    simp only [List.map_cons, List.nodup_cons]
    refine ⟨fun hm => ?_, m.nodup⟩
    obtain ⟨q, hq, he⟩ := List.mem_map.1 hm
    obtain ⟨i, e'⟩ := q
    simp only [] at he; subst he
    exact hnew e' hq
  ids := fun i e1 j e2 hi hj hne x hx hx2 => by
    rcases List.mem_cons.1 hi with h1 | h1 <;> rcases List.mem_cons.1 hj with h2 | h2
    · cases h1; cases hx
    · cases h1; cases hx
    · cases h2; cases hx2
    · exact m.ids i e1 j e2 h1 h2 hne x hx hx2
  idlt := fun i e1 hi x hx => by
    rcases List.mem_cons.1 hi with h1 | h1
    · cases h1; cases hx
    · exact Nat.lt_of_lt_of_le (m.idlt i e1 h1 x hx) p.next
  down := fun x j hx hj => by
    simp only [Bool.or_eq_true, beq_iff_eq] at hx ⊢
    rcases hx with hx | rfl
    · exact .inl (m.down x j hx hj)
    · exact .inl (hr j hj)
  rcdown := fun pre i e1 suf hs j hj => by
    cases pre with
    | nil =>
      simp only [List.nil_append, List.cons.injEq, Prod.mk.injEq] at hs
      obtain ⟨⟨rfl, rfl⟩, rfl⟩ := hs
      exact hedges j hj
    | cons q pre =>
      simp only [List.cons_append, List.cons.injEq] at hs
      exact m.rcdown pre i e1 suf hs.2 j hj
  env := fun pre i e1 suf hs => by
    cases pre with
    | nil =>
      simp only [List.nil_append, List.cons.injEq, Prod.mk.injEq] at hs
      obtain ⟨⟨rfl, rfl⟩, rfl⟩ := hs
      exact ⟨it, hit, rfl, fun se hse => by cases hse⟩
    | cons q pre =>
      simp only [List.cons_append, List.cons.injEq] at hs
      exact m.env pre i e1 suf hs.2
  envn := fun i e1 hi se hse => by
    rcases List.mem_cons.1 hi with h1 | h1
    · cases h1; cases hse
    · exact m.envn i e1 h1 se hse
  dst := fun i e1 hi o' ho' d hd' => by
    rcases List.mem_cons.1 hi with h1 | h1
    · cases h1
      rw [ho] at ho'; obtain rfl := Option.some.inj ho'
      rw [hd'] at hd
      rw [← m.sn]; exact of_decide_eq_true hd
    · exact m.dst i e1 h1 o' ho' d hd'
  split := fun it' hit' => by
    rcases m.split it' hit' with ⟨e', he'⟩ | hm
    · exact .inl ⟨e', List.mem_cons_of_mem _ he'⟩
    · rcases List.mem_cons.1 hm with rfl | hm
      · exact .inl ⟨.w v, by simp⟩
      · exact .inr hm
end
end Ab
end

section
namespace Ab
open Go
set_option autoImplicit false
set_option linter.unusedVariables false
set_option linter.unusedSimpArgs false

theorem Plan.of {ops : Array Oper} {items : List PItem} (h : planOk ops items = true) : Plan ops items ∧ planGo ops (ancs ops.toList) [] none items = true := by
  unfold planOk at h
  simp only [Bool.and_eq_true, decide_eq_true_eq] at h
  obtain ⟨⟨⟨hgo, hlen⟩, hall⟩, hsl⟩ := h
  refine ⟨?_, hgo⟩
  rw [List.all_eq_true] at hall
  have hlt : ∀ (l : List PItem) (seen : List Nat) (k : Option Nat), planGo ops (ancs ops.toList) seen k l = true → ∀ it ∈ l, it.idx < ops.size := by
    intro l
    induction l with
    | nil => intro _ _ _ it h; cases h
    | cons x l ih =>
      intro seen k hp it hm
      cases x with
      | n i ts =>
        simp only [planGo, Bool.and_eq_true, decide_eq_true_eq] at hp
        rcases List.mem_cons.1 hm with rfl | hm
        · exact hp.1.1.2
        · exact ih _ _ hp.2 it hm
      | w i ts rs =>
        simp only [planGo, Bool.and_eq_true, decide_eq_true_eq] at hp
        rcases List.mem_cons.1 hm with rfl | hm
        · exact hp.1.1.1.2
        · exact ih _ _ hp.2 it hm
  constructor
  · intro i hi
    have := hall i (by simpa using hi)
    simp only [Bool.and_eq_true] at this
    have h1 := this.1
    rw [List.contains_iff_mem] at h1
    obtain ⟨it, hm, he⟩ := List.mem_map.1 h1
    exact ⟨it, hm, he⟩
  · exact hlt items [] none hgo
  · intro i hi j hj
    have := hall i (by simpa using hi)
    simp only [Bool.and_eq_true, List.all_eq_true, decide_eq_true_eq] at this
    exact this.2 j hj
  · intro a ha b hb hne d hd
    unfold slotsOk at hsl
    rw [List.all_eq_true] at hsl
    have h1 := hsl a ha
    rw [List.all_eq_true] at h1
    have h2 := h1 b hb
    have hne' : (a.idx == b.idx) = false := by simpa using hne
    rw [hne', Bool.false_or, hd] at h2
    simp only [Bool.and_eq_true, bne_iff_ne, ne_eq, Bool.or_eq_true, Bool.not_eq_true'] at h2
    refine ⟨h2.1, fun hts => ?_⟩
    rcases h2.2 with (h3 | h3) | h3
    · have : a.ts.contains d = true := by rw [List.contains_iff_mem]; exact hts
      rw [h3] at this; cases this
    · exact .inl (ancs_sound h3)
    · exact .inr (ancs_sound h3)

theorem mem_ready {ops : Array Oper} {listed : Array Bool} (hsz : listed.size = ops.size) {i : Nat} : i ∈ Region.ready .any ops listed ↔ i < ops.size ∧ listed.getD i false = false ∧ ∀ j ∈ edgesAt ops i, listed.getD j false = true := by
  unfold Region.ready
  rw [List.mem_filter, List.mem_range]
  constructor
  · rintro ⟨hi, h⟩
    simp only [Bool.and_eq_true, Bool.not_eq_true'] at h
    refine ⟨hi, ?_, ?_⟩
    · have := h.1
      have hl : i < listed.size := by omega
      simp only [Array.getD, hl, dite_true] at this ⊢
      exact this
    · intro j hj
      have h2 := h.2
      have ho : ops[i]? = some ops[i] := Array.getElem?_eq_getElem hi
      rw [ho] at h2
      simp only [Option.map_some, Option.getD_some] at h2
      unfold edgesAt at hj
      rw [ho] at hj
      unfold edgesOf at hj
      obtain ⟨e, he, hx⟩ := List.mem_filterMap.1 hj
      split at hx
      · rename_i hb
        obtain rfl := Option.some.inj hx
        rw [Array.all_eq_true'] at h2
        have := h2 e (by simpa using he)
        simpa [hb] using this
      · cases hx
  · rintro ⟨hi, h1, h2⟩
    refine ⟨hi, ?_⟩
    have hl : i < listed.size := by omega
    have ho : ops[i]? = some ops[i] := Array.getElem?_eq_getElem hi
    rw [ho]
    simp only [Option.map_some, Option.getD_some, Bool.and_eq_true, Bool.not_eq_true']
    refine ⟨by simp only [Array.getD, hl, dite_true] at h1 ⊢; exact h1, ?_⟩
    rw [Array.all_eq_true']
    intro e he
    by_cases hb : Region.binds .any e = true
    · have := h2 e.on (by
        unfold edgesAt; rw [ho]
        exact List.mem_filterMap.2 ⟨e, by simpa using he, by rw [if_pos hb]⟩)
      simp [this]
    · simp [hb]

theorem getD_set {listed : Array Bool} {i : Nat} (hi : i < listed.size) : (fun j => (listed.setIfInBounds i true).getD j false) = fun j => listed.getD j false || j == i := by
  funext j
  rw [Array.getD_eq_getD_getElem?, Array.getD_eq_getD_getElem?]
  by_cases e : j = i
  · subst e; rw [Array.getElem?_setIfInBounds_self_of_lt hi]; simp
  · rw [Array.getElem?_setIfInBounds_ne (Ne.symm e)]
    have : (j == i) = false := by simpa using e
    simp [this]

theorem find_congr {α : Type} {p q : α → Bool} : ∀ {l : List α}, (∀ x ∈ l, p x = q x) → l.find? p = l.find? q
  | [], _ => rfl
  | x :: l, h => by
    rw [List.find?_cons, List.find?_cons, h x (by simp), find_congr (l := l) fun y hy => h y (by simp [hy])]

theorem draw_main {P : Program} {ops : Array Oper} {items : List PItem} {M0 : Mp} {h0 : AHeap} {w0 : World} {s0 : St} {Q : St → AHeap → Prop} {Qc : Exit → Act → World → Prop} (pl : Plan ops items)
    (hq : ∀ M s h a w, Q s h → SRel M s a → Rel M h w → Post M0 h0 w0 M h w → Qc .normal a w) :
    ∀ (fuel : Nat) (listed : Array Bool), listed.size = ops.size → fuel + listed.toList.count true = ops.size → ∀ (rc : List (Nat × Ent)) (lastW : Option Nat) (l : List PItem) (s : St) (h : AHeap) (M : Mp) (a : Act) (w : World),
      Mid P ops items M0 h0 w0 s0 (fun j => listed.getD j false) rc l s h M a w → (∀ it ∈ l, it ∈ items) → planGo ops (ancs ops.toList) (rc.map (·.1)) lastW l = true → awpD P ops Q l rc s h →
      (l = [] ∨ ∃ i ts rs l2, l = .w i ts rs :: l2) → wpAny P .any ops Qc fuel listed a w := by
  have hbits : ∀ i j, an (ancs ops.toList) j i = true → Anc ops j i := fun i j h => ancs_sound h
  -- all is done
  have fin : ∀ (listed : Array Bool), listed.size = ops.size → (∀ i, i < ops.size → listed.getD i false = true) → ∀ (rc : List (Nat × Ent)) (lastW : Option Nat) (l : List PItem) (s : St) (h : AHeap) (M : Mp) (a : Act) (w : World),
      Mid P ops items M0 h0 w0 s0 (fun j => listed.getD j false) rc l s h M a w → (∀ it ∈ l, it ∈ items) → planGo ops (ancs ops.toList) (rc.map (·.1)) lastW l = true → awpD P ops Q l rc s h →
      (l = [] ∨ ∃ i ts rs l2, l = .w i ts rs :: l2) → Qc .normal a w := by
    intro listed hsz hall rc lastW l s h M a w m hsub hp k hl
    rcases hl with rfl | ⟨i, ts, rs, l2, rfl⟩
    · refine hq M s h a w k ⟨m.defers, m.size.trans m.sn.symm, fun t v ht => m.slots t v ?_⟩ m.rel m.post
      rw [m.abs t] at ht
      rw [← ht]
      unfold slotOf
      have : rc.find? (fun p => dstAt ops p.1 == some t && listed.getD p.1 false) = rc.find? (fun p => dstAt ops p.1 == some t && true) := by
        apply find_congr
        intro p hp
        obtain ⟨pre, suf, hs⟩ := List.append_of_mem hp
        obtain ⟨it, hit, hidx, _⟩ := m.env pre p.1 p.2 suf hs
        rw [hall p.1 (hidx ▸ pl.lt it hit)]
      rw [this]
    · exfalso
      simp only [planGo, Bool.and_eq_true, Bool.not_eq_true', decide_eq_true_eq] at hp
      obtain ⟨⟨⟨⟨⟨_, hnew⟩, hlt⟩, _⟩, _⟩, _⟩ := hp
      have := m.notL (not_mem_fst hnew)
      rw [hall i hlt] at this; cases this
  have allDone : ∀ (listed : Array Bool), listed.size = ops.size → Region.ready .any ops listed = [] → ∀ i, i < ops.size → listed.getD i false = true := by
    intro listed hsz hr i
    induction i using Nat.strongRecOn with
    | _ i ih =>
      intro hi
      cases hL : listed.getD i false with
      | true => rfl
      | false =>
        have : i ∈ Region.ready .any ops listed := (mem_ready hsz).2 ⟨hi, hL, fun j hj => ih j (pl.low i hi j hj) (Nat.lt_trans (pl.low i hi j hj) hi)⟩
        rw [hr] at this; cases this
  intro fuel
  induction fuel with
  | zero =>
    intro listed hsz hcnt rc lastW l s h M a w m hsub hp k hl
    have hall : ∀ i, i < ops.size → listed.getD i false = true := by
      intro i hi
      have hc : listed.toList.count true = listed.toList.length := by rw [Array.length_toList]; omega
      rw [List.count_eq_length] at hc
      have hl2 : i < listed.size := by omega
      have := hc listed[i] (by simp)
      simp only [Array.getD, hl2, dite_true]; exact this.symm
    refine ⟨?_, fin listed hsz hall rc lastW l s h M a w m hsub hp k hl⟩
    rw [List.eq_nil_iff_forall_not_mem]
    intro i hi
    obtain ⟨h1, h2, _⟩ := (mem_ready hsz).1 hi
    rw [hall i h1] at h2; cases h2
  | succ fuel ih =>
    intro listed hsz hcnt rc lastW l s h M a w m hsub hp k hl
    refine ⟨fun hr => fin listed hsz (allDone listed hsz hr) rc lastW l s h M a w m hsub hp k hl, fun i hi => ?_⟩
    obtain ⟨hlt, hL, hedge⟩ := (mem_ready hsz).1 hi
    have hr : ∀ j, Anc ops j i → listed.getD j false = true := by
      intro j hj
      cases hj with
      | edge _ _ o ho hj => exact hedge j (edges_at ho hj)
      | step _ j' _ o hk ho hj' => exact m.down j' j (hedge j' (edges_at ho hj')) hk
    have hli : i < listed.size := by omega
    have hsz' : (listed.setIfInBounds i true).size = ops.size := by simpa using hsz
    have hcnt' : fuel + (listed.setIfInBounds i true).toList.count true = ops.size := by
      rw [Array.toList_setIfInBounds, List.count_set (by simpa using hli)]
      have hf : (listed.toList[i]'(by simpa using hli)) = false := by
        simp only [Array.getD, hli, dite_true] at hL
        simpa using hL
      simp only [hf, Bool.false_beq, Bool.not_true, Bool.false_eq_true, if_false, beq_self_eq_true, if_true, Nat.sub_zero]
      omega
    have next : ∀ (rc : List (Nat × Ent)) (lastW : Option Nat) (l : List PItem) (s : St) (h : AHeap) (M : Mp) (a : Act) (w : World), Mid P ops items M0 h0 w0 s0 (fun j => listed.getD j false || j == i) rc l s h M a w → (∀ it ∈ l, it ∈ items) →
        planGo ops (ancs ops.toList) (rc.map (·.1)) lastW l = true → awpD P ops Q l rc s h → wpAny P .any ops Qc fuel (listed.setIfInBounds i true) a w := by
      intro rc lastW l s h M a w m hsub hp k
      obtain ⟨rc', l', s', h', m', hsub', hp', k', hl'⟩ := m.eager pl hbits l rc lastW s h hsub hp k
      exact ih _ hsz' hcnt' rc' lastW l' s' h' M a w (by rw [getD_set hli]; exact m') hsub' hp' k' hl'
    by_cases hin : ∃ e, (i, e) ∈ rc
    · obtain ⟨e, he⟩ := hin
      exact m.pending pl he hL hr fun M' a' w' m' => next rc lastW l s h M' a' w' m' hsub hp k
    · -- it is the writing operation that comes next
      have hni : ∀ e, (i, e) ∉ rc := fun e he => hin ⟨e, he⟩
      obtain ⟨it, hit, hidx⟩ := pl.all i hlt
      have hml : it ∈ l := by
        rcases m.split it hit with ⟨e, he⟩ | hml
        · rw [hidx] at he; exact absurd he (hni e)
        · exact hml
      rcases hl with rfl | ⟨i', ts, rs, l2, rfl⟩
      · cases hml
      · have hp0 := hp
        simp only [planGo, Bool.and_eq_true, Bool.not_eq_true', decide_eq_true_eq] at hp
        obtain ⟨⟨⟨⟨⟨he, hnew⟩, hlt'⟩, hlw⟩, hst⟩, hgo⟩ := hp
        have hnew' := not_mem_fst hnew
        have hii : i' = i := by
          rcases List.mem_cons.1 hml with h1 | h1
          · rw [h1] at hidx; exact hidx
          · exfalso
            have := planGo_anc hbits l2 _ i' hgo it h1
            rw [hidx] at this
            have h2 := m.notL hnew'
            have h3 := hr i' this
            rw [h3] at h2; cases h2
        subst hii
        have hedges := m.anc_in (edges_in he)
        have hitw : PItem.w i' ts rs ∈ items := hsub _ (by simp)
        have hsub2 : ∀ it ∈ l2, it ∈ items := fun it h => hsub it (by simp [h])
        simp only [awpD] at k
        cases ho : ops[i']? with
        | none => rw [ho] at k; exact k.elim
        | some o =>
          rw [ho] at k
          obtain ⟨hd, k⟩ := k
          have sr : SRel M (s.only ts) a := m.srel m.sn fun t v ht => by
            obtain ⟨h1, h2⟩ := only_get s ts t v ht
            rw [m.ready pl (it := .w i' ts rs) (pre := []) (suf := rc) hitw rfl hnew' hL hr hedges h1, ← m.abs t]
            exact h2
          split at k
          · rename_i hg
            have m1 := m.ahead (it := .w i' ts rs) pl hitw ho hnew' hedges hd (e := .skip (s.only ts)) hL m.rel m.post ⟨o, ho, hg⟩ m.pend (Nat.le_refl _) (fun x hx => by cases hx) rfl
            exact m1.pending pl (i := i') (e := .skip (s.only ts)) (List.mem_cons_self ..) hL hr fun M' a' w' m' => next _ (some i') l2 _ _ M' a' w' m' hsub2 hgo k
          · rename_i hg
            unfold Go.wpOp
            simp only [ho]
            rw [guardA_sound sr hg, if_pos rfl]
            left
            refine Oper.upon_mono ?_ (stepA_sound sr m.rel k Qc)
            rintro a' w' ⟨v, vc, M', h', ⟨hstill, k'⟩, rfl, hv, hrel, hpost⟩
            have hold : ∀ j e', (j, e') ∈ rc → listed.getD j false = false → Pend P ops h0.next h' M' j e' := by
              intro j e' hj hLj
              obtain ⟨oj, hoj, hpj⟩ := m.pend j e' hj hLj
              rw [List.all_eq_true] at hst
              have hc := hst j (List.mem_map.2 ⟨_, hj, rfl⟩)
              simp only [Bool.or_eq_true] at hc
              have hc' : rs.contains j = true ∨ pureAt ops j = true := by
                rcases hc with (hc | hc) | hc
                · have := hr j (hbits _ _ hc); rw [this] at hLj; cases hLj
                · exact .inl hc
                · exact .inr hc
              refine ⟨oj, hoj, ?_⟩
              cases e' with
              | skip se => exact hpj
              | w u => exact hpj
              | r se u =>
                refine ⟨hpj.1, ?_⟩
                rcases hc' with hc | hc
                · have := still_mem hstill hj hc
                  simp only [hoj] at this
                  exact this
                · unfold pureAt at hc
                  rw [hoj] at hc
                  rw [evalR_pure hpost.base hc]; exact hpj.2
              | a se u id ob =>
                obtain ⟨p1, p2, p3, p4, p5, p6⟩ := hpj
                refine ⟨p1, by rw [hpost.base]; exact p2, ?_, hpost.ghost id p5 p4, Nat.lt_of_lt_of_le p5 hpost.next, p6⟩
                rcases hc' with hc | hc
                · exact still_mem hstill hj hc
                · unfold pureAt at hc
                  rw [hoj] at hc
                  exact (evalA_notPure p2 hc).elim
            have m1 := m.write (it := .w i' ts rs) pl hitw ho hnew' hedges hr hd hrel hpost hv hold
            exact next _ (some i') l2 _ _ M' _ w' m1 hsub2 hgo k'
          · exact k.elim

/-- A region whose order is drawn: run in one order, with what a plan asks beside. -/
theorem AWP.draw {P : Program} (hmix : P.follows .mixedOrders = true) {id : Nat} {ops : Array Oper} {Q : Exit → St → AHeap → Prop} {s : St} {h : AHeap} (items : List PItem) (hp : planOk ops items = true)
    (k : awpD P ops (Q .normal) items [] s h) : AWP P (.region id ops true) Q s h := by
  intro M a w sr r
  obtain ⟨pl, hgo⟩ := Plan.of hp
  have hbits : ∀ i j, an (ancs ops.toList) j i = true → Anc ops j i := fun i j h => ancs_sound h
  refine wp_region_any hmix ?_
  have hw : ({ w with drawn := w.drawn + 1 } : World).heap = w.heap := rfl
  let L0 : Nat → Bool := fun j => (Array.replicate ops.size false).getD j false
  have hL0 : ∀ j, L0 j = false := fun j => by
    show (Array.replicate ops.size false).getD j false = false
    rw [Array.getD_eq_getD_getElem?, Array.getElem?_replicate]; split <;> rfl
  have m0 : Mid P ops items M h w s L0 [] items s h M a { w with drawn := w.drawn + 1 } := {
    rel := r.world hw
    post := Post.world hw rfl rfl rfl
    b0 := r.bsz
    defers := sr.defers
    size := sr.size
    sn := rfl
    slots := fun t v ht => sr.get t v ht
    abs := fun t => rfl
    sub := fun i hi => by rw [hL0] at hi; cases hi
    pend := fun i e hm => by cases hm
    nodup := List.nodup_nil
    ids := fun i e j e' hm => by cases hm
    idlt := fun i e hm => by cases hm
    down := fun i j hi => by rw [hL0] at hi; cases hi
    rcdown := fun pre i e suf hs => by simp at hs
    env := fun pre i e suf hs => by simp at hs
    envn := fun i e hm => by cases hm
    dst := fun i e hm => by cases hm
    split := fun it hit => .inr hit }
  obtain ⟨rc', l', s', h', m', hsub', hp', k', hl'⟩ := m0.eager pl hbits items [] none s h (fun it h => h) hgo k
  exact draw_main pl (fun M' s' h' a' w' q sr' r' p' => ⟨M', s', h', q, sr', r', p'⟩) ops.size _ (by simp) (by simp [List.count_replicate]) rc' none l' s' h' M a _ m' hsub' hp' k' hl'
end Ab
end
