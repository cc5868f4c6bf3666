import Derived.Test.YtfdkdkhmblhehaaL01f
import Derived.Test.YtfdkdkhmblhehaaL01e
import Derived.Test.YtfdkdkhmblhehaaL01g
open Go Ab Go.Proofs
namespace T1
set_option autoImplicit false
set_option linter.unusedSimpArgs false
set_option linter.unusedVariables false
attribute [local go_sem] tsz5 tby5 tz5 nI24 Try.underlying24 Try.underlying5 agg5 agg3 Try.underlying3 Try.underlying4 Try.underlying23 Try.underlying32 Try.underlying9 Try.underlying46 Try.underlying29 Try.underlying45 tsz46 tby46 tz46 tsz3 tsz24 agg46 agg24 nI29

/-- A row of fields that is put behind another one; what the fields hold lies in memory h0. -/
theorem fields_app {h0 h : AHeap} {v w : Value} {xs ys : List F} {cs : List Value} (k : GS 46 2 h0.next h v xs.length cs) (els : ∀ j (hj : j < xs.length), ∃ fv, cs[j * 2]? = some (.int .i64 xs[j].1) ∧ cs[j * 2 + 1]? = some fv ∧ Bytes h0 fv xs[j].2)
    (kw : Fields h0 w ys) (x : Ext h0 h) (hb : h0.base ≤ h0.next) (hn : xs.length + ys.length ≤ 1000000) :
    ∃ v' h' cs', appendW Try.prog h 29 29 v w = some (v', h') ∧ GS 46 2 h0.next h' v' (xs ++ ys).length cs' ∧ (∀ j (hj : j < (xs ++ ys).length), ∃ fv, cs'[j * 2]? = some (.int .i64 (xs ++ ys)[j].1) ∧ cs'[j * 2 + 1]? = some fv ∧ Bytes h0 fv (xs ++ ys)[j].2) ∧ Ext h0 h' := by
  obtain ⟨ds, sl, hds⟩ := kw
  have hlc := k.length
  have hld := sl.length
  have ok : ds.all okCell = true := by
    rw [List.all_eq_true]
    intro u hu
    obtain ⟨i, hi, rfl⟩ := List.mem_iff_getElem.1 hu
    have hj : i / 2 < ys.length := by omega
    obtain ⟨fv, a1, a2, a3⟩ := hds (i / 2) hj
    rcases Nat.mod_two_eq_zero_or_one i with e | e
    · have : i / 2 * 2 = i := by omega
      rw [this, List.getElem?_eq_getElem hi] at a1
      rw [Option.some.inj a1]; rfl
    · have : i / 2 * 2 + 1 = i := by omega
      rw [this, List.getElem?_eq_getElem hi] at a2
      obtain ⟨a, cap, e0⟩ := a3.val
      rw [Option.some.inj a2, e0]; rfl
  obtain ⟨v', h', e, g, fr, _, _⟩ := GS.app (P := Try.prog) (t := 29) (xt := 29) (xv := w) (xs := ds) Try.underlying29 tsz46 tby46 tz46 nI29 (by omega) (by omega) rfl k (sl.ext x).src hld ok (by omega) (by rw [x.base]; exact hb) x.next
  refine ⟨v', h', cs ++ ds, e, by simpa using g, fun j hj => ?_, ((x.fr (Nat.le_refl _)).trans fr).ext⟩
  by_cases hj2 : j < xs.length
  · obtain ⟨fv, a1, a2, a3⟩ := els j hj2
    refine ⟨fv, ?_, ?_, ?_⟩
    · rw [List.getElem?_append_left (by omega), List.getElem_append_left hj2]; exact a1
    · rw [List.getElem?_append_left (by omega)]; exact a2
    · rw [List.getElem_append_left hj2]; exact a3
  · have hj3 : j - xs.length < ys.length := by simp at hj; omega
    obtain ⟨fv, a1, a2, a3⟩ := hds _ hj3
    refine ⟨fv, ?_, ?_, ?_⟩
    · rw [List.getElem?_append_right (by omega), List.getElem_append_right (by omega)]
      rw [← a1]; congr 1; omega
    · rw [List.getElem?_append_right (by omega), ← a2]; congr 1; omega
    · rw [List.getElem_append_right (by omega)]; exact a3

theorem parts_calls (h : AHeap) (v w : Value) (a b : List UInt8) (hv : Bytes h v a) (hw : Bytes h w b) :
    ACalls Try.prog 7 #[v, w] h fun r h' => r = .bool true := by
  refine ACalls.wf fun hb0 hn0 => ?_
  refine ACalls.of_awp (args := [v, w]) (n := 70) Try.func7 rfl rfl (by show 2 ≤ 70; omega) ?_
  refine AWP.sr [0, 1] (by simp [go_sem]; exact ⟨rfl, rfl⟩) ?_
  refine AWP.seq ?_
  refine AWP.sc [0, 1, 12] ?_
  refine awpL_call 0 (by simp [go_sem]; exact ⟨rfl, rfl⟩) rfl rfl (by simp [go_sem]) (by simp [go_sem]; exact ⟨rfl, rfl⟩) (by kernel_rfl) ?_   -- gangway/gangwaylaw01.speaks
  refine (speaks_calls _).mono ?_
  rintro _ h1 ⟨rfl, x1⟩
  refine awpL_rest (by simp [go_sem, unA]; exact ⟨rfl, rfl⟩) ?_
  refine AWP.onlyE [0, 1, 12] (by simp [go_sem]; rfl) ?_
  refine AWP.cond (by simp [go_sem]; rfl) (fun hc => by cases hc) (fun hc => ?_)
  refine AWP.skip ?_
  simp only [thn, inBlk]
  refine AWP.seq ?_
  have hv1 := hv.ext x1
  have hw1 := hw.ext x1
  have hlen := hv1.len (P := Try.prog) Try.underlying24
  have hlenw := hw1.len (P := Try.prog) Try.underlying24
  generalize hbb : decide (10000 < a.length ∨ 10000 < b.length) = bb
  refine AWP.sr [0, 1, 20] (s2 := ⟨70, [(0, v), (1, w), (20, .bool bb)]⟩) (h2 := h1) ?_ ?_
  · by_cases c1 : 10000 < a.length
    · have : bb = true := by rw [← hbb]; simp [c1]
      subst this
      have c1' : (10000 : Int) < a.length := by omega
      simp [go_sem, hlen, c1']
    · have : bb = decide (10000 < b.length) := by rw [← hbb]; simp [c1]
      subst this
      have c1' : ¬ (10000 : Int) < a.length := by omega
      simp [go_sem, hlen, hlenw, c1']
      omega
  refine AWP.cond (by simp [go_sem]; rfl) (fun hc => ?_) (fun hc => ?_)
  · refine AWP.sr [4] (by simp [go_sem]; exact ⟨rfl, rfl⟩) ?_
    refine AWP.ret ?_
    simp [bodyQ, thn, inBlk, resA, go_sem, resV]
  rw [← hbb] at hc
  simp only [decide_eq_false_iff_not] at hc
  have la : a.length ≤ 10000 := by omega
  have lb : b.length ≤ 10000 := by omega
  clear hbb hc
  refine AWP.skip ?_
  simp only [thn, inBlk]
  refine AWP.sc [0, 1, 5, 6] ?_
  refine awpL_call 1 (by simp [go_sem]; exact ⟨rfl, rfl⟩) rfl rfl (by simp [go_sem]) (by simp [go_sem]; exact ⟨rfl, rfl⟩) (by kernel_rfl) ?_   -- gangway/tlv.Split
  refine (split_calls _ _ _ hv1 (by omega)).mono ?_
  rintro _ h2 ⟨fx, rfl, hfx, x2⟩
  refine awpL_rest (by simp [go_sem]; exact ⟨rfl, rfl⟩) ?_
  refine AWP.onlyE [0, 1, 5, 6] (by simp [go_sem]; rfl) ?_
  refine AWP.sc [0, 1, 5, 6, 7, 8] ?_
  refine awpL_call 1 (by simp [go_sem]; exact ⟨rfl, rfl⟩) rfl rfl (by simp [go_sem]) (by simp [go_sem]; exact ⟨rfl, rfl⟩) (by kernel_rfl) ?_   -- gangway/tlv.Split
  refine (split_calls _ _ _ (hw1.ext x2) (by omega)).mono ?_
  rintro _ h3 ⟨fy, rfl, hfy, x3⟩
  refine awpL_rest (by simp [go_sem]; exact ⟨rfl, rfl⟩) ?_
  refine AWP.onlyE [0, 1, 5, 6, 7, 8] (by simp [go_sem]; rfl) ?_
  have b3 : h3.base ≤ h3.next := by have := x1.next; have := x2.next; have := x3.next; rw [x3.base, x2.base, x1.base]; omega
  have hv3 := (hv1.ext x2).ext x3
  have hw3 := (hw1.ext x2).ext x3
  have g0 : GB 5 h3.next (h3.push (.row [] 5 1 true false)) (.slice (some ⟨h3.next, 0, none⟩) 0 0) [] := .inr ⟨h3.next, 0, [], true, rfl, Nat.le_refl _, Nat.lt_succ_self _, push_self _ _, by simp, by simp⟩
  obtain ⟨u, h4, ea, hu, fr4, _, _⟩ := GB.app (P := Try.prog) (t := 24) (xt := 24) (xv := v) (xs := a) Try.underlying24 tsz5 tby5 tz5 nI24 g0 (hv3.ext ((Ext.refl h3).push _)).src (by simp; omega) (by rw [push_base]; exact b3) (by rw [push_next]; omega)
  rw [List.nil_append] at hu
  have x4 : Ext h3 h4 := ((((Ext.refl h3).push _).fr (Nat.le_refl _)).trans fr4).ext
  obtain ⟨u2, h5, eb, hu2, fr5, _, _⟩ := GB.app (P := Try.prog) (t := 24) (xt := 24) (xv := w) (xs := b) Try.underlying24 tsz5 tby5 tz5 nI24 hu (hw3.ext x4).src (by omega) (by rw [x4.base]; exact b3) x4.next
  have x5 : Ext h3 h5 := ((x4.fr (Nat.le_refl _)).trans fr5).ext
  refine AWP.sc [5, 6, 7, 8, 9, 10] ?_
  refine awpL_call 5 (by simp [go_sem, buildSliceA, zeros, Instr.fill, Value.cells, ea, eb]; exact ⟨rfl, rfl⟩) rfl rfl (by simp [go_sem]) (by simp [go_sem]; exact ⟨rfl, rfl⟩) (by kernel_rfl) ?_   -- gangway/tlv.Split
  refine (split_calls _ _ _ hu2.bytes (by simp; omega)).mono ?_
  rintro _ h6 ⟨fz, rfl, hfz, x6⟩
  refine awpL_rest (by simp [go_sem]; exact ⟨rfl, rfl⟩) ?_
  refine AWP.onlyE [5, 6, 7, 8, 9, 10] (by simp [go_sem]; rfl) ?_
  refine AWP.seq ?_
  have dx := splitGo_err a []
  have dy := splitGo_err b []
  generalize hsa : splitGo [] a = sa at *
  obtain ⟨fa, ca⟩ := sa
  generalize hsb : splitGo [] b = sb at *
  obtain ⟨fb, cb⟩ := sb
  generalize hsz : splitGo [] (a ++ b) = sz at *
  obtain ⟨fc, cc⟩ := sz
  simp only at *
  by_cases ha : ca = 0
  rotate_left
  · obtain ⟨rfl, hca⟩ := dx ha
    refine AWP.sr [5, 6, 7, 8, 9, 10, 41] (by simp [go_sem, ha]; exact ⟨rfl, rfl⟩) ?_
    refine AWP.cond (by simp [go_sem]; rfl) (fun hc => ?_) (fun hc => by simp [ha] at hc)
    rcases hca with rfl | rfl
    · refine AWP.sr [4] (by simp [go_sem]; exact ⟨rfl, rfl⟩) ?_
      refine AWP.ret ?_
      simp [bodyQ, thn, inBlk, resA, go_sem, resV]
    · have hcc : cc = 21 := by have := splitGo_form a b [] (by rw [hsa]); rw [hsz] at this; exact this
      subst hcc
      refine AWP.sr [4] (by simp [go_sem]; exact ⟨rfl, rfl⟩) ?_
      refine AWP.ret ?_
      simp [bodyQ, thn, inBlk, resA, go_sem, resV]
  subst ha
  refine AWP.sr [5, 7, 8, 9, 10, 41] (by simp [go_sem]; exact ⟨rfl, rfl⟩) ?_
  refine AWP.cond (by simp [go_sem]; rfl) (fun hc => by cases hc) (fun hc => ?_)
  refine AWP.skip ?_
  simp only [thn, inBlk]
  refine AWP.seq ?_
  have hcat : (fc, cc) = if cb = 0 then (fa ++ fb, 0) else ([], cb) := by
    have e1 := splitGo_append a b [] (by rw [hsa])
    rw [hsz, hsa, splitGo_acc, hsb] at e1
    exact e1
  by_cases hb : cb = 0
  rotate_left
  · rw [if_neg hb] at hcat
    obtain ⟨rfl, rfl⟩ := Prod.mk.inj hcat
    obtain ⟨cs, hg, _⟩ := hfz
    have hlen3 := hg.sl.len (P := Try.prog) Try.underlying29
    refine AWP.sr [5, 7, 8, 9, 10, 50] (by simp [go_sem, hb]; exact ⟨rfl, rfl⟩) ?_
    refine AWP.cond (by simp [go_sem]; rfl) (fun hc => ?_) (fun hc => by simp [hb] at hc)
    refine AWP.sr [4] (by simp [go_sem, hlen3]; exact ⟨rfl, rfl⟩) ?_
    refine AWP.ret ?_
    simp [bodyQ, thn, inBlk, resA, go_sem, resV]
  subst hb
  rw [if_pos rfl] at hcat
  obtain ⟨rfl, rfl⟩ := Prod.mk.inj hcat
  refine AWP.sr [5, 7, 9, 10, 50] (by simp [go_sem]; exact ⟨rfl, rfl⟩) ?_
  refine AWP.cond (by simp [go_sem]; rfl) (fun hc => by cases hc) (fun hc => ?_)
  refine AWP.skip ?_
  simp only [thn, inBlk]
  have hX : Fields h6 fx fa := (((hfx.ext x3).ext x5).ext x6).fields
  have hY : Fields h6 fy fb := ((hfy.ext x5).ext x6).fields
  have b6 : h6.base ≤ h6.next := by have := x5.next; have := x6.next; rw [x6.base, x5.base]; omega
  have ta : fa.length ≤ 10000 := by
    obtain ⟨gs, q1, q2, q3⟩ := join_split a [] (by rw [hsa])
    rw [hsa] at q1
    simp only [List.nil_append] at q1
    have := tot_len gs
    rw [q1]; omega
  have tb : fb.length ≤ 10000 := by
    obtain ⟨gs, q1, q2, q3⟩ := join_split b [] (by rw [hsb])
    rw [hsb] at q1
    simp only [List.nil_append] at q1
    have := tot_len gs
    rw [q1]; omega
  have g6 : GS 46 2 h6.next (h6.push (.row [] 46 2 true false)) (.slice (some ⟨h6.next, 0, none⟩) 0 0) ([] : List F).length [] := .inr ⟨h6.next, 0, [], true, rfl, Nat.le_refl _, Nat.lt_succ_self _, push_self _ _, by simp, by simp⟩
  obtain ⟨z1, h7, c7, e7, g7, els7, x7⟩ := fields_app (xs := []) g6 (fun j hj => by simp at hj) hX ((Ext.refl h6).push _) b6 (by simp; omega)
  obtain ⟨z2, h8, c8, e8, g8, els8, x8⟩ := fields_app g7 els7 hY x7 b6 (by simp; omega)
  have hZ : Fields h8 z2 (fa ++ fb) := ⟨c8, by simpa using g8.sl, fun j hj => by
    obtain ⟨fv, q1, q2, q3⟩ := els8 j (by simpa using hj)
    exact ⟨fv, by simpa using q1, q2, by simpa using q3.ext x8⟩⟩
  refine AWP.sc [4] ?_
  refine awpL_call 9 (by simp [go_sem, buildSliceA, zeros, Instr.fill, Value.cells, e7, e8]; exact ⟨rfl, rfl⟩) rfl rfl (by simp [go_sem]) (by simp [go_sem]; exact ⟨rfl, rfl⟩) (by kernel_rfl) ?_   -- gangway/gangwayref01.Same
  refine (same_calls _ _ _ _ _ (hfz.fields.ext x8) hZ (by simp; omega)).mono ?_
  rintro _ h9 ⟨rfl, rfl⟩
  refine awpL_rest (by simp [go_sem]; exact ⟨rfl, rfl⟩) ?_
  refine AWP.onlyE [4] (by simp [go_sem]; rfl) ?_
  refine AWP.ret ?_
  simp [bodyQ, thn, inBlk, resA, go_sem, resV]
end T1
