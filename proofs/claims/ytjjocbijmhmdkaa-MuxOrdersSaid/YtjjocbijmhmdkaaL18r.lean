import Derived.Test.YtjjocbijmhmdkaaL18p
open Go Ab Go.Proofs
namespace L18
set_option autoImplicit false
set_option linter.unusedSimpArgs false
set_option linter.unusedVariables false
attribute [local irreducible] mcells

/-! ### Frames that are taken, one behind the other -/
def mtakeL : List Hf → List Ot → List Fr → Option (List Hf × List Ot)
  | o, i, [] => some (o, i)
  | o, i, f :: fs => if (mtake o i f).1 = 0 then mtakeL (mtake o i f).2.1 (mtake o i f).2.2 fs else none
theorem mtakeL_app : ∀ (fs gs : List Fr) (o : List Hf) (i : List Ot), mtakeL o i (fs ++ gs) = (mtakeL o i fs).bind fun q => mtakeL q.1 q.2 gs
  | [], gs, o, i => rfl
  | f :: fs, gs, o, i => by
    simp only [List.cons_append, mtakeL]
    split
    · exact mtakeL_app fs gs _ _
    · rfl
def cutn (w : List UInt8) (cr : Int) : Nat := min w.length cr.toNat
theorem mcut_rest (ch : Nat) : ∀ (k : Nat) (w : List UInt8) (cr : Int), w.length ≤ k → 0 ≤ cr → (mcut ch w cr).2 = (w.drop (cutn w cr), cr - cutn w cr)
  | k, w, cr, hk, hc => by
    by_cases h : 0 < w.length ∧ 0 < cr
    · obtain ⟨n, hn⟩ : ∃ n, n = min (min w.length cr.toNat) 512 := ⟨_, rfl⟩
      rw [mcut_step h hn]
      match k with
      | 0 => omega
      | k + 1 =>
        have ih := mcut_rest ch k (w.drop n) (cr - n) (by simp; omega) (by omega)
        simp only [ih, List.drop_drop]
        have e : n + cutn (w.drop n) (cr - n) = cutn w cr := by simp [cutn]; omega
        rw [e]
        congr 1
        omega
    · rw [mcut_stop h]
      have e : cutn w cr = 0 := by unfold cutn; omega
      rw [e]; simp
theorem mtake_data {o : List Hf} {i : List Ot} {c : Nat} {d : List UInt8} (hc : c < 4) (he : (og i c).ended = false) (hr : (d.length : Int) ≤ (og i c).room) :
    mtake o i ((c : Int), d) = (0, o, i.set c ⟨(og i c).come ++ d, (og i c).room - d.length, (og i c).untold, false⟩) := by
  simp only [mtake, Int.toNat_natCast]
  rw [if_neg (by omega), if_neg (by omega), he, if_neg (by simp), if_neg (by omega)]
theorem mcut_taken (ch : Nat) (hch : ch < 4) (o : List Hf) : ∀ (k : Nat) (w : List UInt8) (cr : Int) (i : List Ot), w.length ≤ k → 0 ≤ cr → i.length = 4 → (og i ch).ended = false → cr ≤ (og i ch).room →
    mtakeL o i (mcut ch w cr).1 = some (o, i.set ch ⟨(og i ch).come ++ w.take (cutn w cr), (og i ch).room - cutn w cr, (og i ch).untold, false⟩)
  | k, w, cr, i, hk, hc, hi, he, hr => by
    by_cases h : 0 < w.length ∧ 0 < cr
    · obtain ⟨n, hn⟩ : ∃ n, n = min (min w.length cr.toNat) 512 := ⟨_, rfl⟩
      rw [mcut_step h hn]
      match k with
      | 0 => omega
      | k + 1 =>
        have hl : (w.take n).length = n := by simp; omega
        have t := mtake_data (o := o) (i := i) (c := ch) (d := w.take n) hch he (by rw [hl]; omega)
        simp only [mtakeL, t, if_true]
        have og1 : og (i.set ch ⟨(og i ch).come ++ w.take n, (og i ch).room - (w.take n).length, (og i ch).untold, false⟩) ch = ⟨(og i ch).come ++ w.take n, (og i ch).room - (w.take n).length, (og i ch).untold, false⟩ := og_set (by omega)
        rw [mcut_taken ch hch o k (w.drop n) (cr - n) _ (by simp; omega) (by omega) (by simp [hi]) (by rw [og1]) (by rw [og1, hl]; simp only; omega)]
        rw [og1, List.set_set, hl]
        have e : n + cutn (w.drop n) (cr - n) = cutn w cr := by simp [cutn]; omega
        have e2 : w.take n ++ (w.drop n).take (cutn (w.drop n) (cr - n)) = w.take (cutn w cr) := by
          rw [← e, List.take_add]
        simp only [List.append_assoc, e2]
        congr 3
        simp only [Ot.mk.injEq, true_and, and_true]
        omega
    · rw [mcut_stop h]
      have e : cutn w cr = 0 := by unfold cutn; omega
      rw [e]
      simp only [mtakeL, List.take_zero, List.append_nil]
      have : (⟨(og i ch).come, (og i ch).room - ((0 : Nat) : Int), (og i ch).untold, false⟩ : Ot) = og i ch := by
        rw [← he]; simp
      rw [this, ← og_eq (by omega), List.set_getElem_self]
theorem mtake_end {o : List Hf} {i : List Ot} {c : Nat} (hc : c < 4) (he : (og i c).ended = false) : mtake o i (toldF 2 c 0) = (0, o, i.set c ⟨(og i c).come, (og i c).room, (og i c).untold, true⟩) := by
  have e1 : (UInt8.ofNat c).toNat = c := by simp; omega
  have e : toldF 2 c 0 = (4, [2, UInt8.ofNat c, 0, 0]) := rfl
  rw [e]
  simp only [mtake, if_true, mctrl, e1]
  rw [if_neg (by omega)]
  simp [he]
/-- What one channel's frames do on the other side. -/
theorem out1_taken {o ob : List Hf} {i ib : List Ot} (k : MI o i) {c : Nat} (hc : c < 4) (hu : (og i c).untold = 0) (hib : ib.length = 4) (he : (og ib c).ended = false) (hr : (hg o c).credit ≤ (og ib c).room) :
    mtakeL ob ib (mout1 o i c).1 = some (ob, ib.set c ⟨(og ib c).come ++ (hg o c).wait.take (cutn (hg o c).wait (hg o c).credit), (og ib c).room - cutn (hg o c).wait (hg o c).credit, (og ib c).untold, mend (hg o c) ((hg o c).wait.drop (cutn (hg o c).wait (hg o c).credit))⟩) := by
  have h1 := mcut_taken c hc ob _ (hg o c).wait (hg o c).credit ib (Nat.le_refl _) (k.cr0 c) hib he hr
  have h2 := mcut_rest c _ (hg o c).wait (hg o c).credit (Nat.le_refl _) (k.cr0 c)
  simp only [mout1, hu, h2]
  simp only [Int.lt_irrefl, if_false, List.append_nil]
  rw [mtakeL_app, h1]
  simp only [Option.bind_some]
  cases hm : mend (hg o c) ((hg o c).wait.drop (cutn (hg o c).wait (hg o c).credit))
  · rfl
  · simp only [if_true, mtakeL]
    rw [mtake_end hc (by rw [og_set (by omega)])]
    simp only [if_true]
    rw [og_set (by omega), List.set_set]
theorem moutN_o {o : List Hf} {i : List Ot} (c : Nat) : ∀ j, j ≤ c → hg (moutN o i j).2.1 c = hg o c
  | 0, _ => rfl
  | j + 1, hj => by
    simp only [moutN, mout1]
    rw [hg_ne (by omega)]
    exact moutN_o c j (by omega)
theorem moutN_i {o : List Hf} {i : List Ot} (hu : ∀ c, c < 4 → (og i c).untold = 0) : ∀ j, j ≤ 4 → (moutN o i j).2.2 = i
  | 0, _ => rfl
  | j + 1, hj => by
    simp only [moutN, mout1]
    rw [moutN_i hu j (by omega), hu j (by omega), if_neg (by omega)]
/-- All that is sent to a new side is taken by it. -/
def came (x : Hf) : Ot := ⟨x.wait.take (cutn x.wait x.credit), 1024 - cutn x.wait x.credit, 0, mend x (x.wait.drop (cutn x.wait x.credit))⟩
theorem outN_taken {o : List Hf} {i : List Ot} (k : MI o i) (hu : ∀ c, c < 4 → (og i c).untold = 0) : ∀ j, j ≤ 4 →
    ∃ ib, mtakeL (zo 4) (zi 4) (moutN o i j).1 = some (zo 4, ib) ∧ ib.length = 4 ∧ (∀ c, c < j → og ib c = came (hg o c)) ∧ (∀ c, j ≤ c → c < 4 → og ib c = y0)
  | 0, _ => ⟨zi 4, rfl, rfl, fun c hc => by omega, fun c _ hc => by
      match c, hc with
      | 0, _ => rfl
      | 1, _ => rfl
      | 2, _ => rfl
      | 3, _ => rfl⟩
  | j + 1, hj => by
    obtain ⟨ib, h1, h2, h3, h4⟩ := outN_taken k hu j (by omega)
    have kj := (k.outN j (by omega)).1
    have hy := h4 j (Nat.le_refl _) (by omega)
    have hi := moutN_i (o := o) hu j (by omega)
    have ho := moutN_o (o := o) (i := i) j j (Nat.le_refl _)
    have hu' : (og (moutN o i j).2.2 j).untold = 0 := by rw [hi]; exact hu j (by omega)
    have hr' : (hg (moutN o i j).2.1 j).credit ≤ (og ib j).room := by rw [ho, hy]; exact k.cr1 j
    have t := out1_taken (ob := zo 4) (ib := ib) kj (c := j) (by omega) hu' h2 (by rw [hy]) hr'
    have t2 : mtakeL (zo 4) (zi 4) (moutN o i (j + 1)).1 = mtakeL (zo 4) ib (mout1 (moutN o i j).2.1 (moutN o i j).2.2 j).1 := by
      simp only [moutN, mtakeL_app, h1, Option.bind_some]
    refine ⟨_, t2.trans t, ?_, fun c hc => ?_, fun c hc hc4 => ?_⟩
    · simp [h2]
    · by_cases e : c = j
      · subst e
        rw [og_set (by omega), ho, hy]
        simp [came]
      · rw [og_ne e]; exact h3 c (by omega)
    · rw [og_ne (by omega)]; exact h4 c (by omega) hc4
theorem mcut_small (ch : Nat) : ∀ (k : Nat) (w : List UInt8) (cr : Int), w.length ≤ k → ∀ f ∈ (mcut ch w cr).1, f.2.length ≤ 512
  | k, w, cr, hk => by
    by_cases h : 0 < w.length ∧ 0 < cr
    · obtain ⟨n, hn⟩ : ∃ n, n = min (min w.length cr.toNat) 512 := ⟨_, rfl⟩
      rw [mcut_step h hn]
      match k with
      | 0 => omega
      | k + 1 =>
        intro f hf
        rcases List.mem_cons.1 hf with rfl | hf
        · simp; omega
        · exact mcut_small ch k (w.drop n) (cr - n) (by simp; omega) f hf
    · rw [mcut_stop h]; simp
theorem out_small {o : List Hf} {i : List Ot} : ∀ j, ∀ f ∈ (moutN o i j).1, f.2.length ≤ 512
  | 0 => by simp [moutN]
  | j + 1 => by
    intro f hf
    simp only [moutN, mout1, List.mem_append] at hf
    rcases hf with hf | hf | hf | hf
    · exact out_small j f hf
    · exact mcut_small j _ _ _ (Nat.le_refl _) f hf
    · split at hf
      · obtain rfl := List.mem_singleton.1 hf; simp [toldF]
      · cases hf
    · split at hf
      · obtain rfl := List.mem_singleton.1 hf; simp [toldF]
      · cases hf
theorem write_other (o : List Hf) (c : Int) (d : List UInt8) (e : Nat) (h : (e : Int) ≠ c) : hg (mwrite o c d).2 e = hg o e := by
  unfold mwrite
  split
  · rfl
  · split
    · rfl
    · rename_i h1 _
      simp only [ne_eq, Decidable.not_not] at h1
      have := mopen_zero h1
      rw [hg_ne (by omega)]
theorem write_closed (o : List Hf) (c : Int) (d : List UInt8) (e : Nat) (ho : o.length = 4) : (hg (mwrite o c d).2 e).closed = (hg o e).closed := by
  unfold mwrite
  split
  · rfl
  · split
    · rfl
    · rename_i h1 _
      simp only [ne_eq, Decidable.not_not] at h1
      have := mopen_zero h1
      by_cases he : e = c.toNat
      · subst he; rw [hg_set (by omega)]
      · rw [hg_ne he]
end L18
