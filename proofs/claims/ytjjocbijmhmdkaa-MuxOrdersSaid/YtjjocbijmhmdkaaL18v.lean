import Derived.Test.YtjjocbijmhmdkaaL18u
open Go Ab Go.Proofs
namespace L18
set_option autoImplicit false
set_option linter.unusedSimpArgs false
set_option linter.unusedVariables false

/-! ### What the document's calls do; how they stand to the others -/
structure DI (D : List Dc) : Prop where
  l : D.length = 4
  s : ∀ c, (dg D c).s ≤ (dg D c).w.length
  w : ∀ c, (dg D c).w.length - (dg D c).s ≤ 4096
  r : ∀ c, (dg D c).r ≤ (dg D c).c.length
  sd : ∀ c, (dg D c).sd ≤ (dg D c).r
  rm : ∀ c, (dg D c).c.length - (dg D c).sd ≤ 1024
  cr0 : ∀ c, 0 ≤ (dg D c).cr
  cr1 : ∀ c, (dg D c).cr ≤ 1024
def hfo (x : Dc) : Hf := ⟨x.w.drop x.s, x.cr, x.closed, x.told⟩
def oto (x : Dc) : Ot := ⟨x.c.drop x.r, 1024 - (x.c.length - x.sd : Nat), (x.r - x.sd : Nat), x.ended⟩
def prO (D : List Dc) : List Hf := D.map hfo
def prI (D : List Dc) : List Ot := D.map oto
section
variable {D : List Dc} {c : Nat}
theorem prO_get (h : c < D.length) : hg (prO D) c = hfo (dg D c) := by simp [prO, hg, dg, h]
theorem prI_get (h : c < D.length) : og (prI D) c = oto (dg D c) := by simp [prI, og, dg, h]
theorem prO_set (x : Dc) : prO (D.set c x) = (prO D).set c (hfo x) := by simp [prO, List.map_set]
theorem prI_set (x : Dc) : prI (D.set c x) = (prI D).set c (oto x) := by simp [prI, List.map_set]
theorem prO_same (h : c < D.length) (x : Dc) (e : hfo x = hfo (dg D c)) : prO (D.set c x) = prO D := by
  rw [prO_set, e, ← prO_get h]; exact hset_self (by simpa [prO] using h)
theorem prI_same (h : c < D.length) (x : Dc) (e : oto x = oto (dg D c)) : prI (D.set c x) = prI D := by
  rw [prI_set, e, ← prI_get h, ← og_eq (by simpa [prI] using h), List.set_getElem_self]
end
theorem DI.mi {D : List Dc} (k : DI D) : MI (prO D) (prI D) := by
  have hl := k.l
  have eo : ∀ c, c < 4 → hg (prO D) c = hfo (dg D c) := fun c hc => prO_get (by omega)
  have ei : ∀ c, c < 4 → og (prI D) c = oto (dg D c) := fun c hc => prI_get (by omega)
  have eo2 : ∀ c, ¬ c < 4 → hg (prO D) c = hz := fun c hc => by simp [prO, hg, List.getElem?_eq_none (l := D) (i := c) (by omega)]
  have ei2 : ∀ c, ¬ c < 4 → og (prI D) c = oz := fun c hc => by simp [prI, og, List.getElem?_eq_none (l := D) (i := c) (by omega)]
  refine ⟨by simp [prO, hl], by simp [prI, hl], fun c => ?_, fun c => ?_, fun c => ?_, fun c hc => ?_, fun c => ?_, fun c => ?_⟩
  · by_cases h : c < 4
    · rw [eo c h]; have := k.w c; simp [hfo]; omega
    · rw [eo2 c h]; simp [hz]
  · by_cases h : c < 4
    · rw [eo c h]; exact k.cr0 c
    · rw [eo2 c h]; simp [hz]
  · by_cases h : c < 4
    · rw [eo c h]; exact k.cr1 c
    · rw [eo2 c h]; simp [hz]
  · rw [ei c hc]
    have := k.r c; have := k.sd c; have := k.rm c
    simp only [oto, List.length_drop]; omega
  · by_cases h : c < 4
    · rw [ei c h]; have := k.rm c; simp only [oto]; omega
    · rw [ei2 c h]; simp [oz]
  · by_cases h : c < 4
    · rw [ei c h]; simp only [oto]; omega
    · rw [ei2 c h]; simp [oz]

structure DO (x : Dc) : Prop where
  s : x.s ≤ x.w.length
  w : x.w.length - x.s ≤ 4096
  r : x.r ≤ x.c.length
  sd : x.sd ≤ x.r
  rm : x.c.length - x.sd ≤ 1024
  cr0 : 0 ≤ x.cr
  cr1 : x.cr ≤ 1024
theorem DI.at {D : List Dc} (k : DI D) (c : Nat) : DO (dg D c) := ⟨k.s c, k.w c, k.r c, k.sd c, k.rm c, k.cr0 c, k.cr1 c⟩
theorem DI.set {D : List Dc} (k : DI D) {c : Nat} {x : Dc} (h : DO x) : DI (D.set c x) := by
  have key : ∀ e, DO (dg (D.set c x) e) := fun e => by
    by_cases he : e = c
    · subst he
      by_cases hl : e < D.length
      · rw [dg_set hl]; exact h
      · rw [List.set_eq_of_length_le (by omega)]; exact k.at e
    · rw [dg_ne he]; exact k.at e
  exact ⟨by simp [k.l], fun e => (key e).s, fun e => (key e).w, fun e => (key e).r, fun e => (key e).sd, fun e => (key e).rm, fun e => (key e).cr0, fun e => (key e).cr1⟩

def dwrite (D : List Dc) (c : Int) (d : List UInt8) : Int × List Dc :=
  if mopen (prO D) c ≠ 0 then (mopen (prO D) c, D) else
  if 4096 - ((dg D c.toNat).w.length - (dg D c.toNat).s) < d.length then (2, D) else
  (0, D.set c.toNat { dg D c.toNat with w := (dg D c.toNat).w ++ d })
def dclose (D : List Dc) (c : Int) : Int × List Dc :=
  if mopen (prO D) c ≠ 0 then (mopen (prO D) c, D) else (0, D.set c.toNat { dg D c.toNat with closed := true })
def dread (D : List Dc) (c most : Int) : List UInt8 × List Dc :=
  if c < 0 ∨ 4 ≤ c ∨ most ≤ 0 then ([], D) else
  let x := dg D c.toNat
  let n := min most.toNat (x.c.length - x.r)
  ((x.c.drop x.r).take n, D.set c.toNat { x with r := x.r + n })
theorem dwrite_pr {D : List Dc} (k : DI D) (c : Int) (d : List UInt8) : mwrite (prO D) c d = ((dwrite D c d).1, prO (dwrite D c d).2) ∧ prI (dwrite D c d).2 = prI D ∧ DI (dwrite D c d).2 := by
  unfold mwrite dwrite
  split
  · exact ⟨rfl, rfl, k⟩
  rename_i h
  have hc := mopen_zero (by simpa using h)
  have hl : c.toNat < D.length := by rw [k.l]; omega
  rw [prO_get hl]
  obtain ⟨h1, h2, h3, h4, h5, h6, h7⟩ := k.at c.toNat
  simp only [hfo, List.length_drop]
  split
  · exact ⟨rfl, rfl, k⟩
  rename_i h8
  refine ⟨?_, prI_same hl _ rfl, k.set ⟨?_, ?_, h3, h4, h5, h6, h7⟩⟩
  · rw [prO_set]
    simp only [hfo, List.drop_append_of_le_length h1]
  · simp only [List.length_append]; omega
  · simp only [List.length_append]; omega
theorem dclose_pr {D : List Dc} (k : DI D) (c : Int) : mclose (prO D) c = ((dclose D c).1, prO (dclose D c).2) ∧ prI (dclose D c).2 = prI D ∧ DI (dclose D c).2 := by
  unfold mclose dclose
  split
  · exact ⟨rfl, rfl, k⟩
  rename_i h
  have hc := mopen_zero (by simpa using h)
  have hl : c.toNat < D.length := by rw [k.l]; omega
  rw [prO_get hl]
  refine ⟨?_, prI_same hl _ rfl, k.set (k.at c.toNat |> fun ⟨h1, h2, h3, h4, h5, h6, h7⟩ => ⟨h1, h2, h3, h4, h5, h6, h7⟩)⟩
  rw [prO_set]; rfl
theorem dread_pr {D : List Dc} (k : DI D) (c most : Int) : mread (prI D) c most = ((dread D c most).1, prI (dread D c most).2) ∧ prO (dread D c most).2 = prO D ∧ DI (dread D c most).2 := by
  unfold mread dread
  split
  · exact ⟨rfl, rfl, k⟩
  rename_i h
  have hl : c.toNat < D.length := by rw [k.l]; omega
  rw [prI_get hl]
  obtain ⟨h1, h2, h3, h4, h5, h6, h7⟩ := k.at c.toNat
  simp only [oto, List.length_drop]
  refine ⟨?_, prO_same hl _ rfl, k.set ⟨h1, h2, ?_, ?_, h5, h6, h7⟩⟩
  · rw [prI_set]
    simp only [oto, List.drop_drop]
    congr 3
    omega
  · simp only; omega
  · simp only; omega
def dended (D : List Dc) (c : Int) : Bool := if 0 ≤ c ∧ c < 4 then (dg D c.toNat).ended && decide ((dg D c.toNat).r = (dg D c.toNat).c.length) else false
theorem dended_pr {D : List Dc} (k : DI D) (c : Int) : mended (prI D) c = dended D c := by
  unfold mended dended
  split
  · rename_i h
    have hl : c.toNat < D.length := by rw [k.l]; omega
    have := k.r c.toNat
    rw [prI_get hl]
    simp only [oto]
    congr 1
    rw [Bool.eq_iff_iff]
    simp only [List.isEmpty_iff, decide_eq_true_eq]
    rw [List.drop_eq_nil_iff]
    omega
  · rfl
def dctrl (D : List Dc) : List UInt8 → Int × List Dc
  | [b0, b1, b2, b3] =>
    if 4 ≤ b1.toNat then (21, D) else
    let n := 256 * b2.toNat + b3.toNat
    let x := dg D b1.toNat
    if b0.toNat = 1 then if 1024 - x.cr < n then (101, D) else (0, D.set b1.toNat { x with cr := x.cr + n })
    else if b0.toNat ≠ 2 ∨ n ≠ 0 then (21, D)
    else if x.ended then (102, D) else (0, D.set b1.toNat { x with ended := true })
  | _ => (21, D)
def dtake (D : List Dc) (f : Fr) : Int × List Dc :=
  if f.1 = 4 then dctrl D f.2 else
  if f.1 < 0 ∨ 4 ≤ f.1 then (100, D) else
  let x := dg D f.1.toNat
  if x.ended then (102, D) else
  if 1024 - (x.c.length - x.sd) < f.2.length then (101, D) else
  (0, D.set f.1.toNat { x with c := x.c ++ f.2 })
theorem dctrl_pr {D : List Dc} (k : DI D) (d : List UInt8) : mctrl (prO D) (prI D) d = ((dctrl D d).1, prO (dctrl D d).2, prI (dctrl D d).2) ∧ DI (dctrl D d).2 := by
  rcases d with _ | ⟨b0, _ | ⟨b1, _ | ⟨b2, _ | ⟨b3, _ | ⟨b4, d⟩⟩⟩⟩⟩
  · exact ⟨rfl, k⟩
  · exact ⟨rfl, k⟩
  · exact ⟨rfl, k⟩
  · exact ⟨rfl, k⟩
  · simp only [mctrl, dctrl]
    by_cases h4 : 4 ≤ b1.toNat
    · rw [if_pos h4, if_pos h4]; exact ⟨rfl, k⟩
    rw [if_neg h4, if_neg h4]
    have hl : b1.toNat < D.length := by rw [k.l]; omega
    obtain ⟨h1, h2, h3, h4, h5, h6, h7⟩ := k.at b1.toNat
    rw [prO_get hl, prI_get hl]
    by_cases hb : b0.toNat = 1
    · rw [if_pos hb, if_pos hb]
      by_cases hc : 1024 - (hfo (dg D b1.toNat)).credit < (256 * b2.toNat + b3.toNat : Nat)
      · have hc2 : 1024 - (dg D b1.toNat).cr < (256 * b2.toNat + b3.toNat : Nat) := hc
        rw [if_pos hc, if_pos hc2]; exact ⟨rfl, k⟩
      · have hc2 : ¬ 1024 - (dg D b1.toNat).cr < (256 * b2.toNat + b3.toNat : Nat) := hc
        rw [if_neg hc, if_neg hc2]
        refine ⟨?_, k.set ⟨h1, h2, h3, h4, h5, ?_, ?_⟩⟩
        · dsimp only
          rw [prO_set, prI_same hl { dg D b1.toNat with cr := (dg D b1.toNat).cr + (256 * b2.toNat + b3.toNat : Nat) } rfl]; rfl
        · simp only; omega
        · simp only; omega
    · rw [if_neg hb, if_neg hb]
      by_cases hc : b0.toNat ≠ 2 ∨ 256 * b2.toNat + b3.toNat ≠ 0
      · rw [if_pos hc, if_pos hc]; exact ⟨rfl, k⟩
      · rw [if_neg hc, if_neg hc]
        by_cases he : (oto (dg D b1.toNat)).ended = true
        · have he2 : (dg D b1.toNat).ended = true := he
          rw [if_pos he, if_pos he2]; exact ⟨rfl, k⟩
        · have he2 : ¬ (dg D b1.toNat).ended = true := he
          rw [if_neg he, if_neg he2]
          refine ⟨?_, k.set ⟨h1, h2, h3, h4, h5, h6, h7⟩⟩
          dsimp only
          rw [prI_set, prO_same hl { dg D b1.toNat with ended := true } rfl]; rfl
  · exact ⟨rfl, k⟩
theorem dtake_pr {D : List Dc} (k : DI D) (f : Fr) : mtake (prO D) (prI D) f = ((dtake D f).1, prO (dtake D f).2, prI (dtake D f).2) ∧ DI (dtake D f).2 := by
  unfold mtake dtake
  split
  · exact dctrl_pr k f.2
  split
  · exact ⟨rfl, k⟩
  have hl : f.1.toNat < D.length := by rw [k.l]; omega
  obtain ⟨h1, h2, h3, h4, h5, h6, h7⟩ := k.at f.1.toNat
  rw [prI_get hl]
  by_cases he : (oto (dg D f.1.toNat)).ended = true
  · have he2 : (dg D f.1.toNat).ended = true := he
    simp only
    rw [if_pos he, if_pos he2]; exact ⟨rfl, k⟩
  have he2 : ¬ (dg D f.1.toNat).ended = true := he
  simp only
  rw [if_neg he, if_neg he2]
  by_cases hr : 1024 - ((dg D f.1.toNat).c.length - (dg D f.1.toNat).sd) < f.2.length
  · have hr2 : (oto (dg D f.1.toNat)).room < f.2.length := by simp only [oto]; omega
    rw [if_pos hr, if_pos hr2]; exact ⟨rfl, k⟩
  · have hr2 : ¬ (oto (dg D f.1.toNat)).room < f.2.length := by simp only [oto]; omega
    rw [if_neg hr, if_neg hr2]
    refine ⟨?_, k.set ⟨h1, h2, ?_, h4, ?_, h6, h7⟩⟩
    · dsimp only
      rw [prI_set, prO_same hl { dg D f.1.toNat with c := (dg D f.1.toNat).c ++ f.2 } rfl]
      congr 3
      simp only [oto, Ot.mk.injEq, true_and, and_true, List.length_append, List.drop_append_of_le_length h3]
      omega
    · simp only [List.length_append]; omega
    · simp only [List.length_append]; omega
def dout1 (D : List Dc) (c : Nat) : List Fr × List Dc :=
  let x := dg D c
  let r := mcut c (x.w.drop x.s) x.cr
  let e := mend (hfo x) r.2.1
  (r.1 ++ ((if e then [toldF 2 c 0] else []) ++ (if x.sd < x.r then [toldF 1 c (x.r - x.sd)] else [])),
    D.set c { x with s := x.w.length - r.2.1.length, cr := r.2.2, told := x.told || e, sd := x.r })
def doutN (D : List Dc) : Nat → List Fr × List Dc
  | 0 => ([], D)
  | j + 1 => ((doutN D j).1 ++ (dout1 (doutN D j).2 j).1, (dout1 (doutN D j).2 j).2)
theorem dout1_pr {D : List Dc} (k : DI D) {c : Nat} (hc : c < 4) : mout1 (prO D) (prI D) c = ((dout1 D c).1, prO (dout1 D c).2, prI (dout1 D c).2) ∧ DI (dout1 D c).2 := by
  have hl : c < D.length := by rw [k.l]; exact hc
  obtain ⟨h1, h2, h3, h4, h5, h6, h7⟩ := k.at c
  have r1 := mcut_rest c _ ((dg D c).w.drop (dg D c).s) (dg D c).cr (Nat.le_refl _) h6
  have r2 := mcut_len c _ ((dg D c).w.drop (dg D c).s) (dg D c).cr (Nat.le_refl _) h6
  unfold mout1 dout1
  rw [prO_get hl, prI_get hl]
  simp only
  have e1 : (hfo (dg D c)).wait = (dg D c).w.drop (dg D c).s := rfl
  have e2 : (hfo (dg D c)).credit = (dg D c).cr := rfl
  rw [e1, e2]
  rw [r1] at r2 ⊢
  obtain ⟨n, hn⟩ : ∃ n, n = cutn ((dg D c).w.drop (dg D c).s) (dg D c).cr := ⟨_, rfl⟩
  have hn2 : n ≤ (dg D c).w.length - (dg D c).s := by rw [hn]; unfold cutn; simp; omega
  rw [← hn] at r1 r2 ⊢
  simp only [List.drop_drop] at r1 r2 ⊢
  obtain ⟨e, he⟩ : ∃ e, e = mend (hfo (dg D c)) ((dg D c).w.drop ((dg D c).s + n)) := ⟨_, rfl⟩
  have hs : (dg D c).w.length - ((dg D c).w.drop ((dg D c).s + n)).length = (dg D c).s + n := by simp; omega
  rw [← he, hs]
  have hif : ((0 : Int) < (oto (dg D c)).untold) = ((dg D c).sd < (dg D c).r) := by
    simp only [oto, eq_iff_iff]; omega
  simp only [hif]
  have ht : (oto (dg D c)).untold.toNat = (dg D c).r - (dg D c).sd := by simp only [oto]; omega
  rw [ht]
  refine ⟨?_, k.set ⟨?_, ?_, h3, ?_, ?_, ?_, ?_⟩⟩
  · rw [prO_set, prI_set]
    refine Prod.ext rfl (Prod.ext rfl ?_)
    simp only
    split
    · rename_i hlt
      congr 1
      simp only [oto, Ot.mk.injEq, true_and, and_true]
      omega
    · rename_i hlt
      have : oto { dg D c with s := (dg D c).s + n, cr := (dg D c).cr - n, told := (dg D c).told || e, sd := (dg D c).r } = oto (dg D c) := by
        simp only [oto, Ot.mk.injEq, true_and, and_true]
        omega
      rw [this, ← prI_get hl, ← og_eq (by simpa [prI] using hl), List.set_getElem_self]
  · simp only; omega
  · simp only; omega
  · simp only; omega
  · simp only; omega
  · simp only; omega
  · simp only; omega
theorem doutN_pr {D : List Dc} (k : DI D) : ∀ j, j ≤ 4 → moutN (prO D) (prI D) j = ((doutN D j).1, prO (doutN D j).2, prI (doutN D j).2) ∧ DI (doutN D j).2
  | 0, _ => ⟨rfl, k⟩
  | j + 1, hj => by
    obtain ⟨h1, h2⟩ := doutN_pr k j (by omega)
    obtain ⟨h3, h4⟩ := dout1_pr h2 (c := j) (by omega)
    refine ⟨?_, h4⟩
    simp only [moutN, doutN, h1, h3]
end L18
