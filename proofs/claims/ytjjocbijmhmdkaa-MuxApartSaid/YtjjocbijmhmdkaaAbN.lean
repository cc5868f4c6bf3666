import Derived.Test.YtjjocbijmhmdkaaAbL
namespace Ab
open Go
set_option autoImplicit false
set_option linter.unusedVariables false
set_option linter.unusedSimpArgs false

/-! ### Calls -/
/-- A function of the program's own, with a body. -/
def goCall (P : Program) (g : FuncId) : Bool :=
  match P.funcs[g]? with
  | some fn => fn.body.isSome && fn.name != "runtime.NumGoroutine"
  | none => false

theorem run_callFunc {P : Program} {g : FuncId} {args : Array Value} (w : World) (h : goCall P g = true) : (callFunc g args).run P w = .ok (.enter g args) w := by
  unfold goCall at h
  cases hf : P.funcs[g]? with
  | none => simp [hf] at h
  | some fn =>
    simp only [hf, Bool.and_eq_true] at h
    obtain ⟨h1, h2⟩ := h
    have h3 : (fn.name == "runtime.NumGoroutine") = false := by simpa using h2
    have h4 : fn.body.isNone = false := by cases hb : fn.body <;> simp [hb] at h1 ⊢
    unfold callFunc
    simp only [Sem.run_bind, run_program, Result.andThen, hf, h3, h4, Bool.false_eq_true, if_false, Sem.run_pure]

def callA (P : Program) (c : Call) (s : St) (h : AHeap) (K : Value → AHeap → Prop) : Prop :=
  match c.callee with
  | .value f => match ev h.base s f with
    | some (.func (.func g) first cap) => match evs (ev h.base s) c.args.toList with
      | some vs => goCall P g = true ∧ ACalls P g (first ++ vs.toArray ++ cap) h K
      | none => False
    | _ => False
  | _ => False

noncomputable def stepA (P : Program) (o : Oper) (s : St) (h : AHeap) (K : Value → AHeap → Prop) : Prop :=
  match evalOp P h s o.op with
  | some p => K p.1 p.2
  | none => match o.op with
    | .call c => callA P c s h K
    | .next x false => match ev h.base s x with
      | some v => nextA h v K
      | none => False
    | _ => False

/-- How the machine's state behind an operation stands to the abstract one. -/
def Next1 (o : Oper) (M : Mp) (h : AHeap) (a : Act) (w : World) (K : Value → AHeap → Prop) : Act → World → Prop :=
  fun a' w' => ∃ v vc M' h', K v h' ∧ a' = a.put o.dst vc ∧ VRel M' v vc ∧ Rel M' h' w' ∧ Post M h w M' h' w'

theorem Oper.upon_mono {P : Program} {o : Oper} {a : Act} {n1 n2 : Act → World → Prop} {Q : Exit → Act → World → Prop} (hn : ∀ a w, n1 a w → n2 a w) {res : Result Next} (h : o.upon P a n1 Q res) : o.upon P a n2 Q res := by
  unfold Oper.upon at h ⊢
  split at h
  · exact hn _ _ h
  · exact hn _ _ h
  · exact hn _ _ h
  · refine Calls.mono h fun e w' he => ?_
    cases e with
    | returned v => exact hn _ _ he
    | panicked c => exact he
    | outgrown => exact he
  · exact Rows.mono h fun v w' hv => hn _ _ hv
  · exact h
  · exact h

theorem stepA_sound {P : Program} {M : Mp} {s : St} {h : AHeap} {a : Act} {w : World} {o : Oper} {K : Value → AHeap → Prop} (sr : SRel M s a) (r : Rel M h w) (k : stepA P o s h K) (Q : Exit → Act → World → Prop) :
    o.wp P a w (Next1 o M h a w K) Q := by
  unfold stepA at k
  unfold Oper.wp
  split at k
  · rename_i p hp
    obtain ⟨w', M', vc, hrun, hv, hr, hp'⟩ := evalOp_sound (v := p.1) (h' := p.2) sr r hp
    rcases hrun with hrun | ⟨hrun, rfl⟩
    · rw [hrun]
      exact ⟨p.1, vc, M', p.2, k, rfl, hv, hr, hp'⟩
    · rw [hrun]
      exact ⟨p.1, undef, M', p.2, k, rfl, hv, hr, hp'⟩
  · split at k
    · rename_i c hop
      unfold callA at k
      split at k
      · rename_i f hcal
        split at k
        · rename_i g first cap hf
          split at k
          · rename_i vs hvs
            obtain ⟨hg, hcalls⟩ := k
            have hfv := ev_sound sr r hf
            have hargs := evs_sound sr r hvs
            rw [toArray_map] at hargs
            generalize hfe : a.eval f = fv at hfv
            cases hfv
            rename_i f' c' h1 h2 h3 h4
            have hall : VRels M (first ++ vs.toArray ++ cap) (f' ++ c.args.map a.eval ++ c') := VRels.append (VRels.append ⟨h1, h2⟩ hargs) ⟨h3, h4⟩
            have hrun : (execOp a.eval o).run P w = .ok (.enter g (f' ++ c.args.map a.eval ++ c')) w := by
              simp only [execOp, hop, resolve, hcal, hfe, Sem.run_bind, Sem.run_pure, Result.andThen, Deferred.ofValue, invoke]
              exact run_callFunc w hg
            rw [hrun]
            refine Calls.mono (hcalls M w _ r hall) ?_
            rintro e w' ⟨v, vc, M', h', rfl, q, hv, hr, hp⟩
            exact ⟨v, vc, M', h', q, rfl, hv, hr, hp⟩
          · exact k.elim
        · exact k.elim
      · exact k.elim
    · rename_i x hop
      split at k
      · rename_i v hv
        obtain ⟨i, m, since, seen, stepped, es, clock, rfl, ho, hm, hall, hsc, k1, k2⟩ := k
        have hx := ev_sound sr r hv
        generalize hfe : a.eval x = xv at hx
        cases hx
        rename_i b hM
        obtain ⟨b2, h0, hM2, hw⟩ := iter_sound r hM ho
        obtain ⟨es', hw2, hmr⟩ := r.live m _ b2 hm hM2
        have hold : ∀ e ∈ es'.toList, e.born < since := fun e he => by
          obtain ⟨j, hj⟩ := List.mem_iff_getElem?.1 he
          obtain ⟨e2, g1, g2, g3, _⟩ := hmr.get hj
          rw [← g3]; exact (hall e2 (List.mem_of_getElem? g1)).1
        rcases run_next (P := P) (ty := o.type) hw hw2 hold hsc with ⟨q1, q2⟩ | ⟨j, hj, q1, w1, g1, g2, g3, g4, q2⟩
        · have hrun : (execOp a.eval o).run P w = .ok (.value (.tuple #[.bool false])) w := by
            simp only [execOp, hop, hfe, h0, Nat.zero_add]
            exact run_v q2
          rw [hrun]
          refine ⟨_, _, M, h, k1 fun e he => ?_, rfl, VRels.tuple (VRels.single (.bool false)), r, Post.refl _ _ _⟩
          obtain ⟨j, hj⟩ := List.mem_iff_getElem.1 he
          obtain ⟨hj, he2⟩ := hj
          simp at hj he2
          have hj2 : j < es'.size := by rw [← hmr.1]; exact hj
          have := (hmr.2 j hj hj2).2.1
          rw [← he2, this]
          exact q1 _ (by simp)
        · have hj2 : j < es.size := by rw [hmr.1]; exact hj
          obtain ⟨p1, p2, p3⟩ := hmr.2 j hj2 hj
          have r1 : Rel M h w1 := r.world g1
          have hrun : (execOp a.eval o).run P w = .ok (.value (.tuple #[.bool true, es'[j].key, es'[j].val])) ({ w1 with heap := w.heap.setIfInBounds b.blk (.mapIter (some b2.blk) since (seen.push es'[j].born) clock) } : World) := by
            simp only [execOp, hop, hfe, h0, Nat.zero_add]
            exact run_v q2
          rw [hrun]
          have hlt : b.blk < w1.heap.size := by rw [g1]; exact r.inb i b hM
          obtain ⟨r2, p2'⟩ := r1.setOther (o' := .mapIter (some m) since (seen.push es[j].born) clock) (co := .mapIter (some b2.blk) since (seen.push es'[j].born) clock) ho hM
            ⟨h0, some b2.blk, by simp only [Array.getElem?_setIfInBounds, if_pos rfl, hlt, p2, if_true], .map m b2 hM2⟩
          rw [g1] at r2 p2'
          have hmem : es[j] ∈ es.toList := by simp
          refine ⟨.tuple #[.bool true, es[j].key, es[j].val], _, M, _, k2 es[j] hmem (by rw [p2]; exact q1), rfl, ?_, r2, (Post.world (M := M) (h := h) g1 g2 g3 g4).trans p2'⟩
          have h3 : VRel M es[j].key es'[j].key := p1 ▸ VRel.refl_flat (hall _ hmem).2
          have := ((VRels.single (VRel.bool (M := M) true)).append (VRels.single h3)).append (VRels.single p3)
          exact VRels.tuple (by simpa using this)
      · exact k.elim
    · exact k.elim

/-! ### Rows of operations, one behind the other -/
/-- Is an operation asked for? -/
def guardA (ops : Array Oper) (s : St) : Option (Nat × Bool) → Option Bool
  | none => some true
  | some (j, want) => match (ops[j]?).bind (·.dst) with
    | some d => match s.get d with
      | some (.bool b) => some (b == want)
      | some (.tuple _) => some false
      | _ => none
    | none => some false

theorem guardA_sound {M : Mp} {s : St} {a : Act} (sr : SRel M s a) {ops : Array Oper} {o : Oper} {b : Bool} (h : guardA ops s o.guard = some b) : Region.wanted o (yielded ops a.tmps) = b := by
  unfold guardA at h
  unfold Region.wanted
  cases hg : o.guard with
  | none => rw [hg] at h; simp only [Option.some.injEq] at h; simp only []; exact h
  | some p =>
    obtain ⟨j, want⟩ := p
    rw [hg] at h
    simp only [] at h ⊢
    unfold yielded
    cases hd : (ops[j]?).bind (·.dst) with
    | none =>
      rw [hd] at h
      simp only [Option.some.injEq] at h
      subst h
      simp
    | some d =>
      rw [hd] at h
      simp only [Option.bind_some] at h ⊢
      split at h
      · rename_i c hc
        simp only [Option.some.injEq] at h
        subst h
        have hv := sr.get d _ hc
        have : a.tmps[d]? = some (.bool c) := by
          rw [Array.getD_eq_getD_getElem?] at hv
          cases ht : a.tmps[d]? with
          | none => rw [ht] at hv; cases hv
          | some u => rw [ht] at hv; simp only [Option.getD_some] at hv; cases hv; rfl
        rw [this]
        simp only []
        cases c <;> cases want <;> rfl
      · rename_i c hc
        simp only [Option.some.injEq] at h
        subst h
        have hv := sr.get d _ hc
        rw [Array.getD_eq_getD_getElem?] at hv
        cases ht : a.tmps[d]? with
        | none => simp
        | some u => rw [ht] at hv; simp only [Option.getD_some] at hv; cases hv; simp
      · cases h

def putO (s : St) : Option Nat → Value → St
  | some d, v => s.put d v
  | none, _ => s

def dstOk (s : St) : Option Nat → Bool
  | some d => decide (d < s.n)
  | none => true

theorem SRel.putO {M : Mp} {s : St} {a : Act} (h : SRel M s a) {d : Option Nat} (hd : dstOk s d = true) {v vc : Value} (hv : VRel M v vc) : SRel M (putO s d v) (a.put d vc) := by
  cases d with
  | none => exact h
  | some d => exact h.put (of_decide_eq_true hd) hv

noncomputable def awpL (P : Program) (ops : Array Oper) (Q : St → AHeap → Prop) : List Oper → St → AHeap → Prop
  | [], s, h => Q s h
  | o :: l, s, h => dstOk s o.dst = true ∧ match guardA ops s o.guard with
    | some true => stepA P o s h fun v h' => awpL P ops Q l (putO s o.dst v) h'
    | some false => awpL P ops Q l (putO s o.dst undef) h
    | none => False

theorem awpL_sound {P : Program} {ops : Array Oper} {Q : St → AHeap → Prop} {Qc : Exit → Act → World → Prop} {M0 : Mp} {h0 : AHeap} {w0 : World} (hq : ∀ M s h a w, Q s h → SRel M s a → Rel M h w → Post M0 h0 w0 M h w → Qc .normal a w) :
    ∀ (l : List Oper) (is : List Nat), is.map (ops[·]?) = l.map some → ∀ (M : Mp) (s : St) (h : AHeap) (a : Act) (w : World), SRel M s a → Rel M h w → Post M0 h0 w0 M h w → awpL P ops Q l s h → wpOps P ops Qc is a w
  | [], is, his, M, s, h, a, w, sr, r, p, k => by
    obtain rfl : is = [] := by simpa using his
    exact hq M s h a w k sr r p
  | o :: l, is, his, M, s, h, a, w, sr, r, p, k => by
    cases is with
    | nil => simp at his
    | cons i is =>
      simp only [List.map_cons, List.cons.injEq] at his
      obtain ⟨hi, his⟩ := his
      unfold wpOps
      simp only [hi]
      obtain ⟨hd, k⟩ := k
      split at k
      · rename_i hg
        rw [guardA_sound sr hg, if_pos rfl]
        left
        refine Oper.upon_mono ?_ (stepA_sound sr r k Qc)
        rintro a' w' ⟨v, vc, M', h', k', rfl, hv, hr, hp⟩
        exact awpL_sound hq l is his M' _ h' _ w' ((sr.mono hp.ext).putO hd hv) hr (p.trans hp) k'
      · rename_i hg
        rw [guardA_sound sr hg, if_neg (by simp)]
        exact awpL_sound hq l is his M _ h _ w (sr.putO hd (VRel.undef M)) r p k
      · exact k.elim

theorem AWP.region {P : Program} {id : Nat} {ops : Array Oper} {Q : Exit → St → AHeap → Prop} {s : St} {h : AHeap} (k : awpL P ops (Q .normal) ops.toList s h) : AWP P (.region id ops false) Q s h := by
  intro M a w sr r
  refine wp_region ?_
  refine awpL_sound (M0 := M) (h0 := h) (w0 := w) (Q := Q .normal) (fun M' s' h' a' w' q sr' r' p' => ⟨M', s', h', q, sr', r', p'⟩) ops.toList (List.range ops.size) ?_ M s h a w sr r (Post.refl _ _ _) k
  apply List.ext_getElem
  · simp
  · intro i h1 h2
    simp at h1 ⊢

/-! ### A function's results, and its call -/
def resA (P : Program) (h : AHeap) (s : St) : List ResultVar → Option (List Value)
  | [] => some []
  | .tmp t :: l => (s.get t).bind fun v => (resA P h s l).map (v :: ·)
  | .cell a t :: l => (s.get a).bind fun p => (loadR P h t p).bind fun v => (resA P h s l).map (v :: ·)

def resV : List Value → Value
  | [v] => v
  | l => .tuple l.toArray

def rvS (tmps : Array Value) : ResultVar → Sem Value
  | .tmp t => pure (tmps.getD t undef)
  | .cell b t => do loadVar t (← asAddr (tmps.getD b undef))

theorem results_eq (fn : Func) (tmps : Array Value) : results fn tmps = (do let vs ← fn.results.mapM (rvS tmps); pure (if h : vs.size = 1 then vs[0] else .tuple vs)) := by
  unfold results
  rfl

theorem resA_sound {P : Program} {M : Mp} {s : St} {h : AHeap} {a : Act} {w : World} (sr : SRel M s a) (r : Rel M h w) : ∀ (l : List ResultVar) (vs : List Value), resA P h s l = some vs →
    ∃ cs : List Value, (l.mapM (rvS a.tmps)).run P w = .ok cs w ∧ VRels M vs.toArray cs.toArray
  | [], vs, e => by simp only [resA, Option.some.injEq] at e; subst e; exact ⟨[], rfl, VRels.nil⟩
  | .tmp t :: l, vs, e => by
    simp only [resA, Option.bind_eq_some_iff, Option.map_eq_some_iff] at e
    obtain ⟨v, hv, rs, hr, rfl⟩ := e
    obtain ⟨cs, h1, h2⟩ := resA_sound sr r l rs hr
    refine ⟨a.tmps.getD t undef :: cs, ?_, ?_⟩
    · rw [List.mapM_cons]
      simp only [rvS, Sem.run_bind, Sem.run_pure, Result.andThen, h1]
    · have := (VRels.single (sr.get t v hv)).append h2
      simpa using this
  | .cell b t :: l, vs, e => by
    simp only [resA, Option.bind_eq_some_iff, Option.map_eq_some_iff] at e
    obtain ⟨p, hp, v, hv, rs, hr, rfl⟩ := e
    obtain ⟨cs, h1, h2⟩ := resA_sound sr r l rs hr
    have hpv := sr.get b p hp
    obtain ⟨vc, hl, hvr⟩ := loadR_sound (P := P) r hpv hv
    have hptr : ∃ x, a.tmps.getD b undef = .pointer (some x) := by
      generalize a.tmps.getD b undef = q at hpv
      cases hpv <;> simp only [loadR, poison] at hv <;> first | (cases hv; done) | exact ⟨_, rfl⟩
    obtain ⟨x, hx⟩ := hptr
    refine ⟨vc :: cs, ?_, ?_⟩
    · rw [List.mapM_cons]
      simp only [Instr.loadAt, hx, Instr.sureAddr, Sem.run_bind, Sem.run_pure, Result.andThen] at hl
      have e2 : (rvS a.tmps (.cell b t)).run P w = .ok vc w := by
        simp only [rvS, Sem.run_bind, hx, asAddr, Sem.run_pure, Result.andThen, hl]
      simp only [Sem.run_bind, e2, Result.andThen, h1, Sem.run_pure]
    · have := (VRels.single hvr).append h2
      simpa using this

theorem run_results {P : Program} {M : Mp} {s : St} {h : AHeap} {a : Act} {w : World} (sr : SRel M s a) (r : Rel M h w) {fn : Func} {vs : List Value} (e : resA P h s fn.results.toList = some vs) :
    ∃ vc, (results fn a.tmps).run P w = .ok vc w ∧ VRel M (resV vs) vc := by
  obtain ⟨cs, h1, h2⟩ := resA_sound sr r _ _ e
  rw [results_eq, Array.mapM_eq_mapM_toList]
  simp only [Sem.run_bind, Sem.run_map]
  rw [h1]
  simp only [Result.andThen, Sem.run_pure]
  refine ⟨_, rfl, ?_⟩
  have hlen : vs.length = cs.length := by have := h2.1; simpa using this
  match vs, cs, hlen, h2 with
  | [], [], _, h2 => exact h2.tuple
  | [v], [c], _, h2 => exact h2.2 0 (by simp) (by simp)
  | v :: u :: l, c :: d :: m, _, h2 => exact h2.tuple

/-- What a body must come to. -/
def bodyQ (P : Program) (fn : Func) (Q : Value → AHeap → Prop) : Exit → St → AHeap → Prop
  | .normal, s, h | .ret, s, h => match resA P h s fn.results.toList with
    | some vs => Q (resV vs) h
    | none => False
  | _, _, _ => False

/-- The slots at a call: the arguments, then nothing. -/
def enterL : List Value → Nat → List (Nat × Value)
  | [], _ => []
  | v :: l, i => (i, v) :: enterL l (i + 1)

theorem lk_enterL : ∀ (l : List Value) (i t : Nat) (v : Value), lk (enterL l i) t = some v → i ≤ t ∧ l[t - i]? = some v
  | [], i, t, v, h => by cases h
  | u :: l, i, t, v, h => by
    simp only [enterL, lk] at h
    split at h
    · rename_i e; subst e; obtain rfl := Option.some.inj h; exact ⟨Nat.le_refl _, by simp⟩
    · rename_i e
      obtain ⟨h1, h2⟩ := lk_enterL l (i + 1) t v h
      refine ⟨by omega, ?_⟩
      rw [show t - i = (t - (i + 1)) + 1 by omega]
      simpa using h2

theorem ACalls.of_awp {P : Program} {f : FuncId} {fn : Func} {c : Code} {args : List Value} {h : AHeap} {Q : Value → AHeap → Prop} {n : Nat} (hf : P.funcs[f]? = some fn) (hb : fn.body = some c) (hnt : fn.ntmps = n) (hn : args.length ≤ n)
    (k : AWP P c (bodyQ P fn Q) ⟨n, enterL args 0⟩ h) : ACalls P f args.toArray h Q := by
  subst hnt
  intro M w cargs r hargs
  refine calls_of_wp hf hb ?_
  have hsz : cargs.size = args.length := by have := hargs.1; simp at this; exact this.symm
  have sr : SRel M ⟨fn.ntmps, enterL args 0⟩ { tmps := cargs ++ Array.replicate (fn.ntmps - cargs.size) undef, defers := [] } := by
    refine ⟨rfl, by simp; omega, fun t v ht => ?_⟩
    obtain ⟨_, h2⟩ := lk_enterL args 0 t v ht
    simp only [Nat.sub_zero] at h2
    obtain ⟨hlt, rfl⟩ := List.getElem?_eq_some_iff.1 h2
    have h3 := hargs.2 t (by simpa using hlt) (by omega)
    have h4 : (cargs ++ Array.replicate (fn.ntmps - cargs.size) undef).getD t undef = cargs[t]'(by omega) := by
      rw [Array.getD_eq_getD_getElem?, Array.getElem?_append_left (by omega), Array.getElem?_eq_getElem (by omega)]; rfl
    rw [h4]
    simpa using h3
  refine wp_mono (k M _ w sr r) ?_
  rintro e a' w' ⟨M', s', h', q, sr', r', p⟩
  have fin : ∀ vs, resA P h' s' fn.results.toList = some vs → Q (resV vs) h' → a'.defers = [] ∧ ∃ v, (results fn a'.tmps).run P w' = .ok v w' ∧
      ∃ v_1 vc M'' h'', Ending.returned v = Ending.returned vc ∧ Q v_1 h'' ∧ VRel M'' v_1 vc ∧ Rel M'' h'' w' ∧ Post M h w M'' h'' w' := by
    intro vs hvs hq
    obtain ⟨vc, h1, h2⟩ := run_results (P := P) sr' r' hvs
    exact ⟨sr'.defers, vc, h1, _, vc, M', h', rfl, hq, h2, r', p⟩
  cases e with
  | normal =>
    simp only [bodyQ] at q
    split at q
    · exact fin _ ‹_› q
    · exact q.elim
  | ret =>
    simp only [bodyQ] at q
    split at q
    · exact fin _ ‹_› q
    · exact q.elim
  | exit id => exact q.elim
  | goto l => exact q.elim
  | panic ch => exact q.elim
  | outgrown => exact q.elim
end Ab
