import Derived.Test.YtjjocbijmhmdkaaL18zi
open Go Ab Go.Proofs
namespace L18
set_option autoImplicit false
set_option linter.unusedSimpArgs false
set_option linter.unusedVariables false
theorem Inv.read {P : PS} (k : Inv P) {s c : Nat} (n : Int) (hs : s < 2) (hc : c < 4) : Inv (pget P s c n) := by
  obtain ⟨E, h1, h2⟩ := k.ex
  have mi := k.mi s hs
  have ht : 1 - s < 2 := by omega
  have hts : 1 - (1 - s) = s := by omega
  have hne : (1 - s) ≠ s := by omega
  have mi2 := mi.read c n
  refine ⟨fun s' hs' => ?_, E, fun s' hs' => h1 s' hs', fun s' c' hs' hc' => ?_⟩
  · rcases side2 hs hs' with rfl | rfl
    · simp only [pget, up_same]; exact mi2
    · simp only [pget, up_ne _ _ hne]; exact k.mi _ ht
  · rcases side2 hs hs' with rfl | rfl
    · have := h2 s' c' hs hc'
      simp only [pget]
      rw [up_ne _ _ hne, up_ne _ _ (by omega)]
      exact this
    · have d := h2 (1 - s) c' ht hc'
      simp only [pget, hts, up_same] at d ⊢
      have hil : c < (P.i s).length := by rw [mi.il]; exact hc
      by_cases e : c' = c
      · subst e
        rw [up_same]
        obtain ⟨d1, d2, d3, d4, d5, d6, d7⟩ := d
        unfold mread
        split
        · simp only [List.append_nil]
          exact ⟨d1, d2, d3, d4, d5, d6, d7⟩
        · rw [Int.toNat_natCast, og_set hil]
          refine ⟨?_, ?_, d3, d4, d5, d6, d7⟩
          · rw [d1]
            simp only [List.append_assoc]
            rw [← List.append_assoc (List.take _ _) (List.drop _ _), List.take_append_drop]
          · simp only [List.length_drop]; omega
      · rw [up_ne _ _ (by omega)]
        have : og (mread (P.i s) c n).2 c' = og (P.i s) c' := by
          unfold mread
          split
          · rfl
          · rw [Int.toNat_natCast, og_ne e]
        rw [this]
        exact d
theorem Inv.write {P : PS} (k : Inv P) {s c : Nat} (d : List UInt8) (hs : s < 2) (hc : c < 4) : Inv (pwrite P s c d) := by
  obtain ⟨E, h1, h2⟩ := k.ex
  have mi := k.mi s hs
  have ht : 1 - s < 2 := by omega
  have hts : 1 - (1 - s) = s := by omega
  have hne : (1 - s) ≠ s := by omega
  have mi2 := mi.write c d
  refine ⟨fun s' hs' => ?_, E, fun s' hs' => h1 s' hs', fun s' c' hs' hc' => ?_⟩
  · rcases side2 hs hs' with rfl | rfl
    · simp only [pwrite, up_same]; exact mi2
    · simp only [pwrite, up_ne _ _ hne]; exact k.mi _ ht
  · have hol : c < (P.o s).length := by rw [mi.ol]; exact hc
    have ew : mwrite (P.o s) c d = if mopen (P.o s) c ≠ 0 then (mopen (P.o s) c, P.o s) else if 4096 - (hg (P.o s) c).wait.length < d.length then (2, P.o s) else (0, (P.o s).set c ⟨(hg (P.o s) c).wait ++ d, (hg (P.o s) c).credit, (hg (P.o s) c).closed, (hg (P.o s) c).told⟩) := by
      unfold mwrite; rw [Int.toNat_natCast]
    have dd := h2 s' c' hs' hc'
    by_cases hz : mopen (P.o s) c ≠ 0
    · rw [if_pos hz] at ew
      have : pwrite P s c d = P := by simp only [pwrite, ew, if_neg hz, up_self]
      rw [this]; exact dd
    rw [if_neg hz] at ew
    by_cases hf : 4096 - (hg (P.o s) c).wait.length < d.length
    · rw [if_pos hf] at ew
      have : pwrite P s c d = P := by simp [pwrite, ew, up_self]
      rw [this]; exact dd
    rw [if_neg hf] at ew
    have hcl : (hg (P.o s) c).closed = false := by
      simp only [ne_eq, Decidable.not_not] at hz
      unfold mopen at hz
      rw [if_neg (by omega), Int.toNat_natCast] at hz
      cases h : (hg (P.o s) c).closed
      · rfl
      · rw [h] at hz; simp at hz
    rcases side2 hs hs' with rfl | rfl
    · simp only [pwrite, ew, if_true, up_same]
      by_cases e : c' = c
      · subst e
        rw [up_same, hg_set hol]
        obtain ⟨d1, d2, d3, d4, d5, d6, d7⟩ := dd
        refine ⟨?_, d2, d3, fun h => ?_, d5, d6, d7⟩
        · rw [d1]; simp [List.append_assoc]
        · have := (d4 h).1; rw [hcl] at this; cases this
      · rw [up_ne _ _ (by omega), hg_ne e]; exact dd
    · simp only [pwrite, ew, if_true]
      rw [up_ne _ _ hne, up_ne _ _ (by omega)]
      exact dd
theorem Inv.close {P : PS} (k : Inv P) {s c : Nat} (hs : s < 2) (hc : c < 4) : Inv (pclose P s c) := by
  obtain ⟨E, h1, h2⟩ := k.ex
  have mi := k.mi s hs
  have ht : 1 - s < 2 := by omega
  have hts : 1 - (1 - s) = s := by omega
  have hne : (1 - s) ≠ s := by omega
  have mi2 := mi.close c
  refine ⟨fun s' hs' => ?_, E, fun s' hs' => h1 s' hs', fun s' c' hs' hc' => ?_⟩
  · rcases side2 hs hs' with rfl | rfl
    · simp only [pclose, up_same]; exact mi2
    · simp only [pclose, up_ne _ _ hne]; exact k.mi _ ht
  · have hol : c < (P.o s).length := by rw [mi.ol]; exact hc
    have ew : mclose (P.o s) c = if mopen (P.o s) c ≠ 0 then (mopen (P.o s) c, P.o s) else (0, (P.o s).set c ⟨(hg (P.o s) c).wait, (hg (P.o s) c).credit, true, (hg (P.o s) c).told⟩) := by
      unfold mclose; rw [Int.toNat_natCast]
    have dd := h2 s' c' hs' hc'
    by_cases hz : mopen (P.o s) c ≠ 0
    · rw [if_pos hz] at ew
      have : pclose P s c = P := by simp only [pclose, ew, if_neg hz, up_self]
      rw [this]; exact dd
    rw [if_neg hz] at ew
    have hcl : (hg (P.o s) c).closed = false := by
      simp only [ne_eq, Decidable.not_not] at hz
      unfold mopen at hz
      rw [if_neg (by omega), Int.toNat_natCast] at hz
      cases h : (hg (P.o s) c).closed
      · rfl
      · rw [h] at hz; simp at hz
    rcases side2 hs hs' with rfl | rfl
    · simp only [pclose, ew, if_true, up_same]
      by_cases e : c' = c
      · subst e
        rw [up_same, hg_set hol]
        obtain ⟨d1, d2, d3, d4, d5, d6, d7⟩ := dd
        exact ⟨d1, d2, d3, fun h => ⟨rfl, (d4 h).2⟩, d5, d6, rfl⟩
      · rw [up_ne _ _ (by omega), hg_ne e]; exact dd
    · simp only [pclose, ew, if_true]
      rw [up_ne _ _ hne, up_ne _ _ (by omega)]
      exact dd
theorem finOf_true {x : Hf} (h : finOf x = true) : x.closed = true ∧ x.told = false ∧ x.wait.drop (cutOf x) = [] := by
  unfold finOf mend at h
  simp only [Bool.and_eq_true, Bool.not_eq_true', List.isEmpty_iff] at h
  exact h
theorem Inv.out {P : PS} (k : Inv P) {s : Nat} (hs : s < 2) : Inv (pout P s) := by
  obtain ⟨E, h1, h2⟩ := k.ex
  have mi := k.mi s hs
  have ht : 1 - s < 2 := by omega
  have hts : 1 - (1 - s) = s := by omega
  have hne : (1 - s) ≠ s := by omega
  obtain ⟨E2, g1, g2, g3⟩ := out_ev mi
  refine ⟨fun s' hs' => ?_, up E (1 - s) (E (1 - s) ++ E2), fun s' hs' => ?_, fun s' c hs' hc => ?_⟩
  · rcases side2 hs hs' with rfl | rfl
    · simp only [pout, up_same]; exact mi.out
    · simp only [pout, up_ne _ _ hne]; exact k.mi _ ht
  · rcases side2 hs hs' with rfl | rfl
    · simp only [pout, up_ne _ _ hne.symm]; exact h1 _ hs
    · simp only [pout, up_same]
      refine ⟨by rw [List.map_append, g1, (h1 _ ht).1], fun e he => ?_⟩
      rcases List.mem_append.1 he with he | he
      · exact (h1 _ ht).2 e he
      · exact g2 e he
  · obtain ⟨p1, p2, p3, p4⟩ := g3 c hc
    obtain ⟨q1, q2⟩ := out_st mi hc
    have hcut : cutOf (hg (P.o s) c) ≤ (hg (P.o s) c).wait.length := by unfold cutOf cutn; omega
    have hu0 := mi.u0 c
    rcases side2 hs hs' with rfl | rfl
    · obtain ⟨d1, d2, d3, d4, d5, d6, d7⟩ := h2 s' c hs hc
      simp only [pout, up_same, up_ne _ _ hne, up_ne _ _ hne.symm, q1]
      have hwt : (hg (P.o s') c).told = true → (hg (P.o s') c).wait.take (cutOf (hg (P.o s') c)) = [] := fun h => by rw [(d4 h).2, List.take_nil]
      refine ⟨?_, ?_, ?_, fun h => ?_, fun h => ?_, ?_, d7⟩
      · rw [d1, dat_app, p1, List.append_assoc, List.take_append_drop]
      · rw [dat_app, p1]
        simp only [List.length_append, List.length_take]
        omega
      · rw [ends_app, p3]
        have e1 : b2n true = 1 := rfl
        have e2 : b2n false = 0 := rfl
        by_cases hf : finOf (hg (P.o s') c) = true
        · have ht := (finOf_true hf).2.1
          rw [ht] at d3
          rw [if_pos hf, hf, Bool.or_true]
          show _ = b2n true
          omega
        · rw [if_neg hf]
          have hf' : finOf (hg (P.o s') c) = false := by simpa using hf
          rw [hf', Bool.or_false]
          show _ = b2n (hg (P.o s') c).told
          omega
      · simp only [Bool.or_eq_true] at h
        rcases h with h | h
        · exact ⟨(d4 h).1, by simp only; rw [(d4 h).2]; simp⟩
        · exact ⟨(finOf_true h).1, (finOf_true h).2.2⟩
      · have htold : (hg (P.o s') c).told = true := by
          rw [h] at d3
          cases hh : (hg (P.o s') c).told
          · rw [hh] at d3; have e1 : b2n true = 1 := rfl; have e2 : b2n false = 0 := rfl; omega
          · rfl
        rw [dat_app, d5 h, p1, hwt htold]; rfl
      · refine aft_app c _ _ d6 p4 fun hh => ?_
        have htold : (hg (P.o s') c).told = true := by
          cases h2 : (hg (P.o s') c).told
          · rw [h2] at d3; have e2 : b2n false = 0 := rfl; omega
          · rfl
        rw [p1, hwt htold]
    · obtain ⟨d1, d2, d3, d4, d5, d6, d7⟩ := h2 (1 - s) c ht hc
      simp only [pout, hts, up_same, up_ne _ _ hne, up_ne _ _ hne.symm, q2] at d1 d2 d3 d4 d5 d6 d7 ⊢
      refine ⟨d1, ?_, d3, d4, d5, d6, d7⟩
      rw [crd_app, p2]
      simp only; omega
def PZ : PS := ⟨fun _ => zo 4, fun _ => zi 4, fun _ => [], fun _ => [], fun _ => [], fun _ => false⟩
theorem Inv.new : Inv PZ := by
  refine ⟨fun s _ => MI.new, fun _ => [], fun s _ => ⟨rfl, fun e he => (by cases he)⟩, fun s c _ hc => ?_⟩
  have e1 : hg (zo 4) c = z0 := by
    match c, hc with
    | 0, _ => rfl
    | 1, _ => rfl
    | 2, _ => rfl
    | 3, _ => rfl
  have e2 : og (zi 4) c = y0 := by
    match c, hc with
    | 0, _ => rfl
    | 1, _ => rfl
    | 2, _ => rfl
    | 3, _ => rfl
  simp only [PZ, e1, e2]
  exact ⟨rfl, by simp [dat, crd], rfl, fun h => (by cases h), fun h => rfl, trivial, rfl⟩
end L18
