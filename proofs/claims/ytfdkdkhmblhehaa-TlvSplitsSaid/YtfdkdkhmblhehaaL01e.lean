import Derived.Test.YtfdkdkhmblhehaaL01d
open Go Ab Go.Proofs
namespace T1
set_option autoImplicit false
set_option linter.unusedSimpArgs false
set_option linter.unusedVariables false
attribute [local go_sem] tsz5 tby5 tz5 nI24 Try.underlying24 Try.underlying5 agg5 agg3 Try.underlying3 Try.underlying4 Try.underlying23 Try.underlying32 Try.underlying9 Try.underlying46 Try.underlying29 Try.underlying45 tsz46 tby46 tz46 tsz3 tsz24 agg46 agg24 nI29

theorem drop3 {raw : List UInt8} {at_ : Nat} {b0 b1 b2 : UInt8} {body : List UInt8} (h : raw.drop at_ = b0 :: b1 :: b2 :: body) : raw.length = at_ + 3 + body.length ∧ raw.drop (at_ + 3) = body ∧ raw[at_]? = some b0 ∧ raw[at_ + 1]? = some b1 ∧ raw[at_ + 2]? = some b2 := by
  have hl := congrArg List.length h
  simp at hl
  have g : ∀ k, raw[at_ + k]? = (b0 :: b1 :: b2 :: body)[k]? := fun k => by rw [← h, List.getElem?_drop]
  refine ⟨by omega, ?_, ?_, ?_, ?_⟩
  · have := congrArg (List.drop 3) h
    simpa using this
  · simpa using g 0
  · simpa using g 1
  · simpa using g 2

theorem FO.empty (lo : Nat) (h : AHeap) (hlo : lo ≤ h.next) : FO lo (h.push (.row [] 46 2 true false)) (.slice (some ⟨h.next, 0, none⟩) 0 0) [] :=
  ⟨[], .inr ⟨h.next, 0, [], true, rfl, hlo, Nat.lt_succ_self _, push_self _ _, by simp, by simp⟩, fun j hj => by simp at hj⟩

theorem at_get {h : AHeap} {v : Value} {raw : List UInt8} (hv : Bytes h v raw) {j : Nat} {b : UInt8} (hb : raw[j]? = some b) : ∃ p, indexAddrP Try.prog 24 v (.int .i64 j) = some p ∧ loadR Try.prog h 5 p = some (B b) := by
  obtain ⟨hj, rfl⟩ := List.getElem?_eq_some_iff.1 hb
  exact hv.get Try.underlying24 agg5 tsz5 hj

theorem refSplit_calls (h : AHeap) (v : Value) (raw : List UInt8) (hv : Bytes h v raw) (hmax : raw.length ≤ 1000000) :
    ACalls Try.prog 21 #[v] h fun r h' => ∃ fv, r = .tuple #[fv, .int .i64 (splitGo [] raw).2] ∧ FO h.next h' fv (splitGo [] raw).1 ∧ Ext h h' := by
  refine ACalls.wf fun hb0 hn0 => ?_
  refine ACalls.of_awp (args := [v]) (n := 83) Try.func21 rfl rfl (by show 1 ≤ 83; omega) ?_
  refine AWP.sr [0] (by simp [go_sem]; exact ⟨rfl, rfl⟩) ?_
  refine AWP.sr [0, 4, 5] (by simp [go_sem, buildSliceA, zeros, Instr.fill, Value.cells]; exact ⟨rfl, rfl⟩) ?_
  refine AWP.seq ?_
  refine AWP.block ?_
  refine AWP.loopR [0, 4, 5] (fun n s h' => ∃ (o : Value) (k : Nat) (acc : List F), k ≤ raw.length ∧ n = raw.length - k ∧ s = ⟨83, [(0, v), (4, o), (5, .int .i64 k)]⟩ ∧ FO h.next h' o acc ∧ Ext h h' ∧
      splitGo [] raw = splitGo acc (raw.drop k) ∧ acc.length ≤ k) ?_ ?_
  · exact ⟨_, _, 0, [], by omega, rfl, by simp [go_sem], FO.empty _ _ (Nat.le_refl _), (Ext.refl h).push _, rfl, by simp⟩
  · rintro n s h' ⟨o, k, acc, hk, rfl, rfl, ho, hx, hsp, hm⟩
    have hd := hv.ext hx
    have hlen := hd.len (P := Try.prog) Try.underlying24
    refine AWP.seq ?_
    refine AWP.sr [0, 4, 5, 12] (by simp [go_sem, hlen]; exact ⟨rfl, rfl⟩) ?_
    refine AWP.cond (by simp [go_sem]; rfl) (fun hc => ?_) (fun hc => ?_)
    rotate_left
    · refine AWP.exit ?_   -- block 0
      simp only [thn, inBlk, if_true]
      have hk2 : k = raw.length := by simp at hc; omega
      have e : splitGo [] raw = (acc, 0) := by rw [hsp, hk2, List.drop_length, splitGo]
      rw [e]
      refine AWP.sr [2, 3] (by simp [go_sem]; exact ⟨rfl, rfl⟩) ?_
      refine AWP.ret ?_
      simp [bodyQ, thn, inBlk, resA, go_sem, resV]
      exact ⟨ho, hx⟩
    refine AWP.skip ?_
    simp only [thn, inBlk]
    refine AWP.block ?_
    refine AWP.seq ?_
    have hk2 : k < raw.length := by simpa using hc
    generalize hbs : raw.drop k = bs at hsp
    rcases bs with _ | ⟨b0, rest⟩
    · simp at hbs; omega
    have hb0' : raw[k]? = some b0 := by have := congrArg (·[0]?) hbs; simpa using this
    obtain ⟨p0, e1, e2⟩ := at_get hd hb0'
    by_cases hz : b0 = 0
    · subst hz
      refine AWP.sr [0, 4, 5, 17] (by simp [go_sem, e1, e2, B]; exact ⟨rfl, rfl⟩) ?_
      refine AWP.cond (by simp [go_sem]; rfl) (fun hc => ?_) (fun hc => by cases hc)
      refine AWP.sr [2, 3] (by simp [go_sem, buildSliceA, zeros, Instr.fill, Value.cells]; exact ⟨rfl, rfl⟩) ?_
      refine AWP.ret ?_
      have e : splitGo [] raw = ([], 21) := by rw [hsp, splitGo.eq_def]; simp
      rw [e]
      simp [bodyQ, thn, inBlk, resA, go_sem, resV]
      exact ⟨FO.empty _ _ hx.next, hx.push _⟩
    have hz' : ¬ b0.toNat = 0 := fun e => hz (by rw [← UInt8.toNat_inj]; simpa using e)
    refine AWP.sr [0, 4, 5, 17] (by simp [go_sem, e1, e2, B, hz']; exact ⟨rfl, rfl⟩) ?_
    refine AWP.cond (by simp [go_sem]; rfl) (fun hc => by simp [hz'] at hc) (fun hc => ?_)
    refine AWP.skip ?_
    simp only [thn, inBlk]
    refine AWP.sr [0, 4, 5, 6] (s2 := ⟨83, [(0, v), (4, o), (5, .int .i64 k), (6, .int .i64 ((raw.length : Int) - k))]⟩) (h2 := h') (by simp (disch := omega) [go_sem, hlen, wI64]) ?_
    refine AWP.seq ?_
    have hlr : raw.length = k + 1 + rest.length := by have := congrArg List.length hbs; simp at this; omega
    by_cases h3 : rest.length < 2
    · have h3' : (raw.length : Int) - k < 3 := by omega
      refine AWP.sd hmix [.n 0 [6], .n 1 [23], .n 2 [24], .n 3 [0, 25], .n 4 [5, 25], .n 5 [27, 25], .n 6 [26, 28, 25], .n 7 [29, 25], .n 8 [30, 25], .n 9 [31, 25], .n 10 [0, 25], .n 11 [5, 25], .n 12 [34, 25], .n 13 [33, 35, 25], .n 14 [36, 25], .n 15 [37, 25], .n 16 [32, 38, 25], .n 17 [6, 25], .n 18 [40, 25], .n 19 [39, 41, 25], .n 20 [25, 42]] (by kernel_rfl) [0, 4, 5, 43] (by simp [go_sem, h3']; exact ⟨rfl, rfl⟩) ?_
      refine AWP.cond (by simp [go_sem]; rfl) (fun hc => ?_) (fun hc => by cases hc)
      refine AWP.sr [2, 3] (by simp [go_sem, buildSliceA, zeros, Instr.fill, Value.cells]; exact ⟨rfl, rfl⟩) ?_
      refine AWP.ret ?_
      have e : splitGo [] raw = ([], 20) := by
        rw [hsp, splitGo.eq_def]
        rcases rest with _ | ⟨b1, _ | ⟨b2, body⟩⟩
        · simp [hz]
        · simp [hz]
        · simp at h3; omega
      rw [e]
      simp [bodyQ, thn, inBlk, resA, go_sem, resV]
      exact ⟨FO.empty _ _ hx.next, hx.push _⟩
    have h3' : ¬ (raw.length : Int) - k < 3 := by omega
    obtain ⟨b1, b2, body, rfl⟩ : ∃ b1 b2 body, rest = b1 :: b2 :: body := by
      rcases rest with _ | ⟨b1, _ | ⟨b2, body⟩⟩
      · simp at h3
      · simp at h3
      · exact ⟨_, _, _, rfl⟩
    obtain ⟨hl, hdr, _, hg1, hg2⟩ := drop3 hbs
    obtain ⟨p1, f1, f2⟩ := at_get hd hg1
    obtain ⟨p2, g1, g2⟩ := at_get hd hg2
    have f1' : indexAddrP Try.prog 24 v (.int .i64 ((k : Int) + 1)) = some p1 := f1
    have g1' : indexAddrP Try.prog 24 v (.int .i64 ((k : Int) + 2)) = some p2 := g1
    have l1 := b1.toNat_lt
    have l2 := b2.toNat_lt
    generalize hn : 256 * b1.toNat + b2.toNat = n
    have hn' : 256 * (b1.toNat : Int) + b2.toNat = n := by omega
    have w1 : IntKind.i64.wrap ((k : Int) + 1) = k + 1 := wI64 (by omega) (by omega)
    have w2 : IntKind.i64.wrap ((k : Int) + 2) = k + 2 := wI64 (by omega) (by omega)
    have w3 : IntKind.i64.wrap (256 * (b1.toNat : Int)) = 256 * b1.toNat := wI64 (by omega) (by omega)
    have w4 : IntKind.i64.wrap (n : Int) = n := wI64 (by omega) (by omega)
    have w5 : IntKind.i64.wrap ((raw.length : Int) - k - 3) = body.length := by rw [wI64 (by omega) (by omega)]; omega
    refine AWP.sd hmix [.n 0 [6], .n 1 [23], .n 2 [24], .n 3 [0, 25], .n 4 [5, 25], .n 5 [27, 25], .n 6 [26, 28, 25], .n 7 [29, 25], .n 8 [30, 25], .n 9 [31, 25], .n 10 [0, 25], .n 11 [5, 25], .n 12 [34, 25], .n 13 [33, 35, 25], .n 14 [36, 25], .n 15 [37, 25], .n 16 [32, 38, 25], .n 17 [6, 25], .n 18 [40, 25], .n 19 [39, 41, 25], .n 20 [25, 42]] (by kernel_rfl) [0, 4, 5, 43] (by simp [go_sem, h3', w1, w2, w3, w4, w5, hn', f1', f2, g1', g2, convB]; exact ⟨rfl, rfl⟩) ?_
    by_cases hbig : body.length < n
    · refine AWP.cond (by simp [go_sem]; rfl) (fun hc => ?_) (fun hc => by simp at hc; omega)
      refine AWP.sr [2, 3] (by simp [go_sem, buildSliceA, zeros, Instr.fill, Value.cells]; exact ⟨rfl, rfl⟩) ?_
      refine AWP.ret ?_
      have e : splitGo [] raw = ([], 20) := by rw [hsp, splitGo]; simp [hz, hn, hbig]
      rw [e]
      simp [bodyQ, thn, inBlk, resA, go_sem, resV]
      exact ⟨FO.empty _ _ hx.next, hx.push _⟩
    refine AWP.cond (by simp [go_sem]; rfl) (fun hc => by simp at hc; omega) (fun hc => ?_)
    refine AWP.skip ?_
    simp only [thn, inBlk]
    refine AWP.sd hmix [.n 0 [0], .n 1 [5], .n 2 [46], .n 3 [45, 47], .n 4 [48], .n 5 [49], .n 6 [50], .n 7 [0], .n 8 [5], .n 9 [53], .n 10 [52, 54], .n 11 [55], .n 12 [56], .n 13 [51, 57], .n 14 [58]] (by kernel_rfl) [0, 4, 5, 7] (by simp [go_sem, w1, w2, w3, w4, hn', f1', f2, g1', g2, convB]; exact ⟨rfl, rfl⟩) ?_
    have w6 : IntKind.i64.wrap ((k : Int) + 3) = k + 3 := wI64 (by omega) (by omega)
    have w7 : IntKind.i64.wrap ((k : Int) + 3 + n) = k + 3 + n := wI64 (by omega) (by omega)
    obtain ⟨d3, sl2, hd3, hb3⟩ := (hd.ext ((Ext.refl h').push (.row [] 5 1 true false))).slice (P := Try.prog) (t := 24) (e := 5) Try.underlying24 tsz5 (lo := k + 3) (hi := k + 3 + n) (by omega) (by omega) (l := some (.int .i64 ((k : Int) + 3))) (u := some (.int .i64 ((k : Int) + 3 + n))) (.inr ⟨.i64, rfl⟩) (.inr ⟨.i64, rfl⟩)
    have hd3e : (raw.take (k + 3 + n)).drop (k + 3) = body.take n := by
      rw [List.drop_take, hdr]; congr 1; omega
    rw [hd3e] at hd3
    have gb0 : GB 5 h'.next (h'.push (.row [] 5 1 true false)) (.slice (some ⟨h'.next, 0, none⟩) 0 0) [] := .inr ⟨h'.next, 0, [], true, rfl, Nat.le_refl _, Nat.lt_succ_self _, push_self _ _, by simp, by simp⟩
    obtain ⟨cv, h2, ec, hcv, fr2, _, _⟩ := GB.app (P := Try.prog) (t := 24) (xt := 24) (xv := d3) (xs := body.take n) Try.underlying24 tsz5 tby5 tz5 nI24 gb0 hd3.src (by simp; omega) (by rw [push_base, hx.base]; have := hx.next; omega) (by rw [push_next]; omega)
    rw [List.nil_append] at hcv
    have x2 : Ext h' h2 := ((((Ext.refl h').push _).fr (Nat.le_refl _)).trans fr2).ext
    obtain ⟨q0, u1, u2⟩ := at_get (hd.ext x2) hb0'
    obtain rfl : p0 = q0 := Option.some.inj (e1.symm.trans u1)
    obtain ⟨o2, h3, ea, ho2, hfr⟩ := FO.app (tag := (b0.toNat : Int)) (i := h2.next) (ho.ext x2) (hcv.obytes.lower hx.next) (by rw [x2.base, hx.base]; exact hb0) (Nat.le_trans hx.next x2.next) (by omega) rfl
    obtain ⟨a, cap, rfl⟩ := hcv.obytes.val
    rw [List.length_take] at ea
    have ldp : loadR Try.prog (h'.push (.row [] 5 1 true false)) 5 p0 = some (B b0) := by
      obtain ⟨q1, y1, y2⟩ := at_get (hd.ext ((Ext.refl h').push (.row [] 5 1 true false))) hb0'
      obtain rfl : p0 = q1 := Option.some.inj (e1.symm.trans y1)
      exact y2
    refine AWP.sw hmix [.n 0 [4], .n 1 [0], .n 2 [5], .n 3 [60, 61], .n 4 [62], .n 5 [63], .n 6 [], .n 7 [0], .n 8 [5], .n 9 [67], .n 10 [5], .n 11 [69], .n 12 [7], .n 13 [70, 71], .n 14 [66, 68, 72], .w 15 [65, 73] [4, 5], .n 16 [64, 74], .n 17 [75], .w 18 [59, 76] [], .n 19 [77]] (by kernel_rfl) ?_
    refine awpD_write 15 _ _ _ (by simp [go_sem, e1, e2, convB, w6, w7, sl2, buildSliceA, zeros, Instr.fill, Value.cells]; exact ⟨rfl, rfl, rfl⟩) rfl rfl rfl (by simp [go_sem]) (by simp [go_sem, ec]; exact ⟨rfl, rfl⟩) (by simp [still, go_sem, e1, u2, convB]) ?_
    refine awpD_write 2 _ _ _ (by simp [go_sem, buildP, buildSliceA, zeros, Instr.fill]; exact ⟨rfl, rfl, rfl⟩) rfl rfl rfl (by simp [go_sem]) (by simp [go_sem, ea]; exact ⟨rfl, rfl⟩) (by simp [still]) ?_
    refine awpD_rest (by simp [go_sem]; exact ⟨rfl, rfl, rfl⟩) ?_
    refine AWP.onlyE [0, 4, 5, 7] (by simp [go_sem]; rfl) ?_
    have x3 : Ext h h3 := (((hx.trans x2).fr (Nat.le_refl _)).trans hfr).ext
    have w8 : IntKind.i64.wrap (3 + (n : Int)) = 3 + n := wI64 (by omega) (by omega)
    have w9 : IntKind.i64.wrap ((k : Int) + (3 + n)) = ((k + 3 + n : Nat) : Int) := by rw [wI64 (by omega) (by omega)]; omega
    refine AWP.r [0, 4, 5] (by simp [go_sem, w8, w9]; exact ⟨rfl, rfl⟩) (fun s' hs' => ?_)
    refine ⟨_, ?_, o2, k + 3 + n, _, by omega, rfl, hs'.trans ?_, ho2, x3, ?_, ?_⟩
    · omega
    · simp
    · have hdd : raw.drop (k + 3 + n) = body.drop n := by rw [← List.drop_drop, hdr]
      rw [hsp, splitGo, hdd]; simp [hz, hn, hbig]
    · simp; omega

end T1
