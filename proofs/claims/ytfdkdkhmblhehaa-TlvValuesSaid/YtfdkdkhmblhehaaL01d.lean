import Derived.Test.YtfdkdkhmblhehaaL01b
open Go Ab Go.Proofs
namespace T1
set_option autoImplicit false
set_option linter.unusedSimpArgs false
set_option linter.unusedVariables false
attribute [local go_sem] tsz5 tby5 tz5 nI24 Try.underlying24 Try.underlying5 agg5 agg3 Try.underlying3 Try.underlying4 Try.underlying23 Try.underlying32 Try.underlying9 Try.underlying46 Try.underlying29 Try.underlying45 tsz46 tby46 tz46 tsz3 tsz24 agg46 agg24 nI29

theorem clone_calls (h : AHeap) (v : Value) (bs : List UInt8) (hv : Bytes h v bs) (hlen : bs.length ≤ 140737488355328) :
    ACalls Try.prog 28 #[v] h fun r h' => OBytes 5 h.next h' r bs ∧ Ext h h' := by
  refine ACalls.wf fun hb hn => ?_
  refine ACalls.of_awp (args := [v]) (n := 8) Try.func28 rfl rfl (by show 1 ≤ 8; omega) ?_
  have hs := hv.src
  rcases hv with ⟨rfl, rfl⟩ | ⟨i, off, cap, c, e, sz, ti, ro, rfl, h1, h2, h3, h4, h5, h6⟩
  · refine AWP.sr [0] (by simp [go_sem]; exact ⟨rfl, rfl⟩) ?_
    refine AWP.seq ?_
    refine AWP.sr [0, 4] (by simp [go_sem]; exact ⟨rfl, rfl⟩) ?_
    refine AWP.cond (by simp [go_sem]; rfl) (fun _ => ?_) (fun h => by cases h)
    refine AWP.sr [2] (by simp [go_sem]; exact ⟨rfl, rfl⟩) ?_
    refine AWP.ret ?_
    simp [bodyQ, thn, resA, go_sem, resV]
    exact ⟨OBytes.nil _ _ _, Ext.refl _⟩
  · refine AWP.sr [0] (by simp [go_sem]; exact ⟨rfl, rfl⟩) ?_
    refine AWP.seq ?_
    refine AWP.sr [0, 4] (by simp [go_sem]; exact ⟨rfl, rfl⟩) ?_
    refine AWP.cond (by simp [go_sem]; rfl) (fun h => by cases h) (fun _ => ?_)
    refine AWP.skip ?_
    simp only [thn]
    have hs' : ∀ o, srcCells (h.push o) 1 (.slice (some ⟨i, off, none⟩) bs.length cap) = some (bs.length, bs.map B) := fun o =>
      (Bytes.ext (.inr ⟨i, off, cap, c, e, sz, ti, ro, rfl, h1, h2, h3, h4, h5, h6⟩) ((Ext.refl h).push o)).src
    by_cases h0 : bs = []
    · subst h0
      simp at hs'
      refine AWP.sr [2] (by simp [go_sem, buildSliceA, appendW, hs', zeros, Instr.fill, push_old]; exact ⟨rfl, rfl⟩) ?_
      refine AWP.ret ?_
      simp [bodyQ, thn, resA, go_sem, resV]
      exact ⟨.inr ⟨h.next, 0, 0, [], true, rfl, Nat.le_refl _, Nat.le_refl _, Nat.lt_succ_self _, push_self _ _, by simp, by simp⟩, (Ext.refl h).push _⟩
    · refine AWP.sr [2] (by simp [go_sem, buildSliceA, appendW, hs', zeros, Instr.fill, push_old, h0, hlen]; exact ⟨rfl, rfl⟩) ?_
      refine AWP.ret ?_
      simp [bodyQ, thn, resA, go_sem, resV]
      refine ⟨.inr ⟨h.next + 1, 0, bs.length, bs.map B, false, rfl, Nat.le_refl _, Nat.le_succ _, Nat.lt_succ_self _, push_self _ _, by simp, by simp [List.take_of_length_le]⟩, ((Ext.refl h).push _).push _⟩

theorem convB (h : AHeap) (b : UInt8) : convR Try.prog h 5 3 (B b) = some (.int .i64 b.toNat) := by
  have := b.toNat_lt
  simp (disch := omega) [B, convR_int, convP, Try.underlying5, Try.underlying3, wI64]

/-! ### Fields that are one's own -/
def FO (lo : Nat) (h : AHeap) (v : Value) (fs : List F) : Prop := ∃ cs, GS 46 2 lo h v fs.length cs ∧ ∀ j (hj : j < fs.length), ∃ fv, cs[j * 2]? = some (.int .i64 fs[j].1) ∧ cs[j * 2 + 1]? = some fv ∧ OBytes 5 lo h fv fs[j].2

theorem FO.fields {lo : Nat} {h : AHeap} {v : Value} {fs : List F} (k : FO lo h v fs) : Fields h v fs := by
  obtain ⟨cs, h1, h2⟩ := k
  exact ⟨cs, h1.sl, fun j hj => by obtain ⟨fv, a, b, c⟩ := h2 j hj; exact ⟨fv, a, b, c.bytes⟩⟩

theorem FO.nil (lo : Nat) (h : AHeap) : FO lo h (.slice none 0 0) [] := ⟨[], GS.nil _ _ _ _, fun j hj => by simp at hj⟩

theorem Fields.ext {h h' : AHeap} {v : Value} {fs : List F} (k : Fields h v fs) (x : Ext h h') : Fields h' v fs := by
  obtain ⟨cs, h1, h2⟩ := k
  exact ⟨cs, h1.ext x, fun j hj => by obtain ⟨fv, a, b, c⟩ := h2 j hj; exact ⟨fv, a, b, c.ext x⟩⟩

theorem FO.ext {lo : Nat} {h h' : AHeap} {v : Value} {fs : List F} (k : FO lo h v fs) (x : Ext h h') : FO lo h' v fs := by
  obtain ⟨cs, h1, h2⟩ := k
  exact ⟨cs, h1.ext x, fun j hj => by obtain ⟨fv, a, b, c⟩ := h2 j hj; exact ⟨fv, a, b, c.ext x⟩⟩

theorem FO.lower {lo lo' : Nat} {h : AHeap} {v : Value} {fs : List F} (k : FO lo h v fs) (hl : lo' ≤ lo) : FO lo' h v fs := by
  obtain ⟨cs, h1, h2⟩ := k
  exact ⟨cs, h1.lower hl, fun j hj => by obtain ⟨fv, a, b, c⟩ := h2 j hj; exact ⟨fv, a, b, c.lower hl⟩⟩

/-- One field more. -/
theorem FO.app {lo : Nat} {h : AHeap} {o : Value} {acc : List F} {tag : Int} {cv : Value} {bs : List UInt8} {i : Nat} (k : FO lo h o acc) (hb : OBytes 5 lo h cv bs) (hlo : h.base ≤ lo) (hlo2 : lo ≤ h.next) (hn : acc.length ≤ 1000000) (hi : i = h.next) :
    ∃ v' h', appendW Try.prog (h.push (.row [.int .i64 tag, cv] 46 2 true false)) 29 29 o (.slice (some ⟨i, 0, none⟩) 1 1) = some (v', h') ∧ FO lo h' v' (acc ++ [(tag, bs)]) ∧ Fr lo h h' := by
  subst hi
  obtain ⟨cs, k1, k2⟩ := k
  have x : Ext h (h.push (.row [.int .i64 tag, cv] 46 2 true false)) := (Ext.refl h).push _
  obtain ⟨a, cap, e0⟩ := hb.val
  have ok : [Value.int .i64 tag, cv].all okCell = true := by subst e0; rfl
  obtain ⟨v', h', e, g, fr, oth, _⟩ := GS.app (P := Try.prog) (t := 29) (xt := 29) (xv := .slice (some ⟨h.next, 0, none⟩) 1 1) (xs := [.int .i64 tag, cv]) (m := 1) Try.underlying29 tsz46 tby46 tz46 nI29 (by omega) (by omega) rfl (k1.ext x) (by simp [srcCells, push_self]) rfl ok (by omega) (by rw [push_base]; exact hlo) (by rw [push_next]; omega)
  refine ⟨v', h', e, ⟨cs ++ [.int .i64 tag, cv], by simpa using g, fun j hj => ?_⟩, (x.fr hlo2).trans fr⟩
  have hl := k1.length
  have keep : ∀ {fv : Value} {b : List UInt8}, OBytes 5 lo h fv b → OBytes 5 lo h' fv b := by
    intro fv b hfv
    refine (hfv.ext x).keep fr.next fun j c ti hj hbl hob => oth j hj ?_
    intro e1
    rcases k1 with ⟨rfl, _⟩ | ⟨i, off, c', ti', rfl, q1, q2, q3, _⟩
    · cases e1
    · cases e1
      rw [push_old _ _ _ q2, q3] at hob
      cases hob
  by_cases hj2 : j < acc.length
  · obtain ⟨fv, a1, a2, a3⟩ := k2 j hj2
    refine ⟨fv, ?_, ?_, ?_⟩
    · rw [List.getElem?_append_left (by omega), List.getElem_append_left hj2]; exact a1
    · rw [List.getElem?_append_left (by omega)]; exact a2
    · rw [List.getElem_append_left hj2]; exact keep a3
  · have hj3 : j = acc.length := by simp at hj; omega
    subst hj3
    refine ⟨cv, ?_, ?_, ?_⟩
    · rw [List.getElem?_append_right (by omega)]; simp [hl]
    · rw [List.getElem?_append_right (by omega)]; simp [hl]
    · simpa using keep hb

def splitGo (acc : List F) (bs : List UInt8) : List F × Int := match bs with
  | [] => (acc, 0)
  | b0 :: rest => if b0 = 0 then ([], 21) else match rest with
    | b1 :: b2 :: body => if body.length < 256 * b1.toNat + b2.toNat then ([], 20) else splitGo (acc ++ [((b0.toNat : Int), body.take (256 * b1.toNat + b2.toNat))]) (body.drop (256 * b1.toNat + b2.toNat))
    | _ => ([], 20)
  termination_by bs.length
  decreasing_by simp; omega

theorem or_i64 {n b : Nat} (hn : n < 256) (hb : b < 256) : ((BitVec.ofInt 64 ((n : Int) * 256) ||| BitVec.ofNat 64 b).toNat : Int) = ((256 * n + b : Nat) : Int) := or_u64 (by omega) hb

theorem split_calls (h : AHeap) (v : Value) (raw : List UInt8) (hv : Bytes h v raw) (hmax : raw.length ≤ 1000000) :
    ACalls Try.prog 20 #[v] h fun r h' => ∃ fv, r = .tuple #[fv, .int .i64 (splitGo [] raw).2] ∧ FO h.next h' fv (splitGo [] raw).1 ∧ Ext h h' := by
  refine ACalls.wf fun hb0 hn0 => ?_
  refine ACalls.of_awp (args := [v]) (n := 48) Try.func20 rfl rfl (by show 1 ≤ 48; omega) ?_
  refine AWP.sr [0, 2] (by simp [go_sem]; exact ⟨rfl, rfl⟩) ?_
  refine AWP.seq ?_
  refine AWP.block ?_
  refine AWP.loopR [0, 2] (fun n s h' => ∃ (d o : Value) (bs : List UInt8) (acc : List F), n = bs.length ∧ s = ⟨48, [(0, d), (2, o)]⟩ ∧ Bytes h' d bs ∧ (∀ j, blkOf d = some j → j < h.next) ∧ FO h.next h' o acc ∧ Ext h h' ∧
      splitGo [] raw = splitGo acc bs ∧ acc.length + bs.length ≤ 1000000) ?_ ?_
  · refine ⟨_, v, _, raw, [], rfl, by simp [go_sem], hv, hv.blk, FO.nil _ _, .refl _, rfl, by simpa using hmax⟩
  · rintro n s h' ⟨d, o, bs, acc, rfl, rfl, hd, hdb, ho, hx, hsp, hm⟩
    have hlen := hd.len (P := Try.prog) Try.underlying24
    refine AWP.seq ?_
    refine AWP.sr [0, 2, 8] (by simp [go_sem, hlen]; exact ⟨rfl, rfl⟩) ?_
    refine AWP.cond (by simp [go_sem]; rfl) (fun hc => ?_) (fun hc => ?_)
    rotate_left
    · refine AWP.exit ?_   -- block 0
      simp only [thn, inBlk, if_true]
      obtain rfl : bs = [] := by simpa using hc
      rw [hsp, splitGo]
      refine AWP.sr [2, 3] (by simp [go_sem]; exact ⟨rfl, rfl⟩) ?_
      refine AWP.ret ?_
      simp [bodyQ, thn, inBlk, resA, go_sem, resV]
      exact ⟨ho, hx⟩
    refine AWP.skip ?_
    simp only [thn, inBlk]
    refine AWP.block ?_
    refine AWP.seq ?_
    rcases bs with _ | ⟨b0, rest⟩
    · simp at hc
    obtain ⟨p0, e1, e2⟩ := hd.get (P := Try.prog) (t := 24) (e := 5) Try.underlying24 agg5 tsz5 (j := 0) (by simp) (kd := .i64)
    have e1' : indexAddrP Try.prog 24 d (.int .i64 0) = some p0 := e1
    simp only [List.getElem_cons_zero] at e2
    by_cases hz : b0 = 0
    · subst hz
      refine AWP.sr [0, 2, 12] (by simp [go_sem, e1', e2, B]; exact ⟨rfl, rfl⟩) ?_
      refine AWP.cond (by simp [go_sem]; rfl) (fun hc => ?_) (fun hc => by cases hc)
      refine AWP.sr [2, 3] (by simp [go_sem]; exact ⟨rfl, rfl⟩) ?_
      refine AWP.ret ?_
      have e : splitGo [] raw = ([], 21) := by rw [hsp, splitGo.eq_def]; simp
      rw [e]
      simp [bodyQ, thn, inBlk, resA, go_sem, resV]
      exact ⟨FO.nil _ _, hx⟩
    have hz' : ¬ b0.toNat = 0 := fun e => hz (by rw [← UInt8.toNat_inj]; simpa using e)
    refine AWP.sr [0, 2, 12] (by simp [go_sem, e1', e2, B, hz']; exact ⟨rfl, rfl⟩) ?_
    refine AWP.cond (by simp [go_sem]; rfl) (fun hc => by simp [hz'] at hc) (fun hc => ?_)
    refine AWP.skip ?_
    simp only [thn, inBlk]
    refine AWP.seq ?_
    refine AWP.sr [0, 2, 15] (by simp [go_sem, hlen]; exact ⟨rfl, rfl⟩) ?_
    by_cases h3 : rest.length < 2
    · refine AWP.cond (by simp [go_sem]; rfl) (fun hc => ?_) (fun hc => by simp at hc; omega)
      refine AWP.sr [2, 3] (by simp [go_sem]; exact ⟨rfl, rfl⟩) ?_
      refine AWP.ret ?_
      have e : splitGo [] raw = ([], 20) := by
        rw [hsp, splitGo.eq_def]
        rcases rest with _ | ⟨b1, _ | ⟨b2, body⟩⟩
        · simp [hz]
        · simp [hz]
        · simp at h3; omega
      rw [e]
      simp [bodyQ, thn, inBlk, resA, go_sem, resV]
      exact ⟨FO.nil _ _, hx⟩
    refine AWP.cond (by simp [go_sem]; rfl) (fun hc => by simp at hc; omega) (fun hc => ?_)
    refine AWP.skip ?_
    simp only [thn, inBlk]
    obtain ⟨b1, b2, body, rfl⟩ : ∃ b1 b2 body, rest = b1 :: b2 :: body := by
      rcases rest with _ | ⟨b1, _ | ⟨b2, body⟩⟩
      · simp at h3
      · simp at h3
      · exact ⟨_, _, _, rfl⟩
    obtain ⟨p1, f1, f2⟩ := hd.get (P := Try.prog) (t := 24) (e := 5) Try.underlying24 agg5 tsz5 (j := 1) (by simp) (kd := .i64)
    have f1' : indexAddrP Try.prog 24 d (.int .i64 1) = some p1 := f1
    simp only [List.getElem_cons_zero, List.getElem_cons_succ] at f2
    obtain ⟨p2, g1, g2⟩ := hd.get (P := Try.prog) (t := 24) (e := 5) Try.underlying24 agg5 tsz5 (j := 2) (by simp) (kd := .i64)
    have g1' : indexAddrP Try.prog 24 d (.int .i64 2) = some p2 := g1
    simp only [List.getElem_cons_zero, List.getElem_cons_succ] at g2
    have l1 := b1.toNat_lt
    have l2 := b2.toNat_lt
    have hor := or_i64 (n := b1.toNat) (b := b2.toNat) l1 l2
    generalize hn : 256 * b1.toNat + b2.toNat = n at hor
    refine AWP.sd hmix [.n 0 [0], .n 1 [16], .n 2 [17], .n 3 [18], .n 4 [19], .n 5 [0], .n 6 [21], .n 7 [22], .n 8 [23], .n 9 [20, 24], .n 10 [25]] (by kernel_rfl) [0, 2, 4] (s2 := ⟨48, [(0, d), (2, o), (4, .int .i64 n)]⟩) (h2 := h') (by simp (disch := omega) [go_sem, f1', f2, g1', g2, B, wI64]; exact (congrArg IntKind.i64.wrap hor).trans (wI64 (by omega) (by omega))) ?_
    obtain ⟨d2, sl1, hd2, hb2⟩ := hd.slice (P := Try.prog) (t := 24) (e := 5) Try.underlying24 tsz5 (lo := 3) (hi := (b0 :: b1 :: b2 :: body).length) (by simp) (Nat.le_refl _) (l := some (.int .i64 3)) (u := none) (.inr ⟨.i64, rfl⟩) (.inl ⟨rfl, rfl⟩)
    simp only [List.take_length, List.drop_succ_cons, List.drop_zero] at hd2
    have hlen2 := hd2.len (P := Try.prog) Try.underlying24
    refine AWP.sr [0, 2, 4, 5] (by simp [go_sem, sl1]; exact ⟨rfl, rfl⟩) ?_
    refine AWP.seq ?_
    refine AWP.sr [0, 2, 4, 5, 31] (by simp [go_sem, hlen2]; exact ⟨rfl, rfl⟩) ?_
    by_cases hbig : body.length < n
    · refine AWP.cond (by simp [go_sem]; rfl) (fun hc => ?_) (fun hc => by simp at hc; omega)
      refine AWP.sr [2, 3] (by simp [go_sem]; exact ⟨rfl, rfl⟩) ?_
      refine AWP.ret ?_
      have e : splitGo [] raw = ([], 20) := by rw [hsp, splitGo]; simp [hz, hn, hbig]
      rw [e]
      simp [bodyQ, thn, inBlk, resA, go_sem, resV]
      exact ⟨FO.nil _ _, hx⟩
    refine AWP.cond (by simp [go_sem]; rfl) (fun hc => by simp at hc; omega) (fun hc => ?_)
    refine AWP.skip ?_
    simp only [thn, inBlk]
    obtain ⟨d3, sl2, hd3, hb3⟩ := hd2.slice (P := Try.prog) (t := 24) (e := 5) Try.underlying24 tsz5 (lo := 0) (hi := n) (by omega) (by omega) (l := none) (u := some (.int .i64 n)) (.inl ⟨rfl, rfl⟩) (.inr ⟨.i64, rfl⟩)
    rw [List.drop_zero] at hd3
    have hd2lt : ∀ j, blkOf d2 = some j → j < h.next := fun j hj => hdb j (hb2 j hj)
    refine AWP.sw hmix [.n 0 [2], .n 1 [0], .n 2 [33], .n 3 [34], .n 4 [35], .n 5 [5], .n 6 [4], .n 7 [37, 38], .w 8 [39] [3, 4], .n 9 [36, 40], .n 10 [41], .w 11 [32, 42] [], .n 12 [43]] (by kernel_rfl) ?_
    refine awpD_call 8 _ _ _ (by simp [go_sem, e1', e2, sl2, convB]; exact ⟨rfl, rfl, rfl⟩) rfl rfl rfl (by simp [go_sem]) (by simp [go_sem]; exact ⟨rfl, rfl⟩) (by kernel_rfl) ?_   -- bytes.Clone
    refine (clone_calls h' d3 _ hd3 (by simp; simp at hm; omega)).mono ?_
    rintro cv h2 ⟨hcv, x2⟩
    obtain ⟨q0, u1, u2⟩ := (hd.ext x2).get (P := Try.prog) (t := 24) (e := 5) Try.underlying24 agg5 tsz5 (j := 0) (by simp) (kd := .i64)
    have u1' : indexAddrP Try.prog 24 d (.int .i64 0) = some q0 := u1
    obtain rfl : p0 = q0 := Option.some.inj (e1'.symm.trans u1')
    simp only [List.getElem_cons_zero] at u2
    refine ⟨by simp [still, go_sem, e1', u2, convB], ?_⟩
    obtain ⟨o2, h3, ea, ho2, hfr⟩ := FO.app (tag := (b0.toNat : Int)) (i := h2.next) (ho.ext x2) (hcv.lower hx.next) (by rw [x2.base, hx.base]; exact hb0) (Nat.le_trans hx.next x2.next) (by omega) rfl
    obtain ⟨a, cap, rfl⟩ := hcv.val
    rw [List.length_take] at ea
    refine awpD_write 2 _ _ _ (by simp [go_sem, convB, buildP, buildSliceA, zeros, Instr.fill]; exact ⟨rfl, rfl, rfl⟩) rfl rfl rfl (by simp [go_sem]) (by simp [go_sem, ea]; exact ⟨rfl, rfl⟩) (by simp [still]) ?_
    refine awpD_rest (by simp [go_sem]; exact ⟨rfl, rfl, rfl⟩) ?_
    refine AWP.onlyE [2, 4, 5] (by simp [go_sem]; rfl) ?_
    have x3 : Ext h h3 := (((hx.trans x2).fr (Nat.le_refl _)).trans hfr).ext
    have hd2' : Bytes h3 d2 body := hd2.later hd2lt hx x3 (Nat.le_trans x2.next hfr.next)
    obtain ⟨d4, sl3, hd4, hb4⟩ := hd2'.slice (P := Try.prog) (t := 24) (e := 5) Try.underlying24 tsz5 (lo := n) (hi := body.length) (by omega) (by omega) (l := some (.int .i64 n)) (u := none) (.inr ⟨.i64, rfl⟩) (.inl ⟨rfl, rfl⟩)
    rw [List.take_length] at hd4
    refine AWP.r [0, 2] (by simp [go_sem, sl3]; exact ⟨rfl, rfl⟩) (fun s' hs' => ?_)
    refine ⟨_, ?_, d4, o2, _, _, rfl, hs', hd4, fun j hj => hd2lt j (hb4 j hj), ho2, x3, ?_, ?_⟩
    · simp; omega
    · rw [hsp, splitGo]; simp [hz, hn, hbig]
    · simp at hm ⊢; omega
end T1
