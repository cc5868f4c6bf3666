import Derived.Test.YtjjocbijmhmdkaaL18zg
import Derived.Test.YtjjocbijmhmdkaaL18za
open Go Ab Go.Proofs
namespace L18
set_option autoImplicit false
set_option linter.unusedSimpArgs false
set_option linter.unusedVariables false

/-! ### What goes between the two -/
inductive Ev where
  | d (c : Nat) (b : List UInt8)
  | e (c : Nat)
  | k (c n : Nat)
def Ev.enc : Ev → Fr
  | .d c b => ((c : Int), b)
  | .e c => toldF 2 c 0
  | .k c n => toldF 1 c n
def Ev.ok : Ev → Prop
  | .d c b => c < 4 ∧ b ≠ [] ∧ b.length ≤ 512
  | .e c => c < 4
  | .k c n => c < 4 ∧ n ≤ 1024
def dat (c : Nat) : List Ev → List UInt8
  | [] => []
  | .d c' b :: W => (if c' = c then b else []) ++ dat c W
  | .e _ :: W => dat c W
  | .k _ _ :: W => dat c W
def crd (c : Nat) : List Ev → Nat
  | [] => 0
  | .d _ _ :: W => crd c W
  | .e _ :: W => crd c W
  | .k c' n :: W => (if c' = c then n else 0) + crd c W
def ends (c : Nat) : List Ev → Nat
  | [] => 0
  | .d _ _ :: W => ends c W
  | .e c' :: W => (if c' = c then 1 else 0) + ends c W
  | .k _ _ :: W => ends c W
def aft (c : Nat) : List Ev → Prop
  | [] => True
  | .d _ _ :: W => aft c W
  | .e c' :: W => (c' = c → dat c W = []) ∧ aft c W
  | .k _ _ :: W => aft c W
theorem dat_app (c : Nat) : ∀ a b : List Ev, dat c (a ++ b) = dat c a ++ dat c b
  | [], b => rfl
  | .d _ _ :: a, b => by simp [dat, dat_app c a b]
  | .e _ :: a, b => by simp [dat, dat_app c a b]
  | .k _ _ :: a, b => by simp [dat, dat_app c a b]
theorem crd_app (c : Nat) : ∀ a b : List Ev, crd c (a ++ b) = crd c a + crd c b
  | [], b => by simp [crd]
  | .d _ _ :: a, b => by simp [crd, crd_app c a b]
  | .e _ :: a, b => by simp [crd, crd_app c a b]
  | .k _ _ :: a, b => by simp [crd, crd_app c a b]; omega
theorem ends_app (c : Nat) : ∀ a b : List Ev, ends c (a ++ b) = ends c a + ends c b
  | [], b => by simp [ends]
  | .d _ _ :: a, b => by simp [ends, ends_app c a b]
  | .e _ :: a, b => by simp [ends, ends_app c a b]; omega
  | .k _ _ :: a, b => by simp [ends, ends_app c a b]
theorem aft_app (c : Nat) : ∀ a b : List Ev, aft c a → aft c b → (ends c a ≠ 0 → dat c b = []) → aft c (a ++ b)
  | [], b, _, hb, _ => hb
  | .d _ _ :: a, b, ha, hb, h => aft_app c a b ha hb h
  | .e c' :: a, b, ha, hb, h => by
    refine ⟨fun e => ?_, aft_app c a b ha.2 hb fun hh => h (by simp only [ends]; omega)⟩
    show dat c (a ++ b) = []
    rw [dat_app, ha.1 e, h (by simp [ends, e])]; rfl
  | .k _ _ :: a, b, ha, hb, h => aft_app c a b ha hb h
/-- What a side sends of one channel. -/
structure Sent (E : List Ev) (c : Nat) (w : List UInt8) (n e : Nat) : Prop where
  d : dat c E = w
  k : crd c E = n
  e : ends c E = e
  a : aft c E
theorem mcut_ev (ch : Nat) (hch : ch < 4) : ∀ (k : Nat) (w : List UInt8) (cr : Int), w.length ≤ k → 0 ≤ cr → ∃ E : List Ev, E.map Ev.enc = (mcut ch w cr).1 ∧ (∀ e ∈ E, e.ok) ∧ (∀ c, Sent E c (if ch = c then w.take (cutn w cr) else []) 0 0)
  | k, w, cr, hk, hc => by
    by_cases h : 0 < w.length ∧ 0 < cr
    · obtain ⟨n, hn⟩ : ∃ n, n = min (min w.length cr.toNat) 512 := ⟨_, rfl⟩
      rw [mcut_step h hn]
      match k with
      | 0 => omega
      | k + 1 =>
        obtain ⟨E, h1, h2, h3⟩ := mcut_ev ch hch k (w.drop n) (cr - n) (by simp; omega) (by omega)
        refine ⟨.d ch (w.take n) :: E, by simp [Ev.enc, h1], ?_, fun c => ?_⟩
        · intro e he
          rcases List.mem_cons.1 he with rfl | he
          · refine ⟨hch, ?_, by rw [List.length_take]; omega⟩
            intro hh
            have := congrArg List.length hh
            rw [List.length_take, List.length_nil] at this; omega
          · exact h2 e he
        · have e1 : n + cutn (w.drop n) (cr - n) = cutn w cr := by simp [cutn]; omega
          refine ⟨?_, (h3 c).k, (h3 c).e, (h3 c).a⟩
          simp only [dat, (h3 c).d]
          split
          · rw [← e1, List.take_add]
          · rfl
    · rw [mcut_stop h]
      have e1 : cutn w cr = 0 := by unfold cutn; omega
      refine ⟨[], rfl, fun e he => (by cases he), fun c => ⟨?_, rfl, rfl, trivial⟩⟩
      rw [e1]; simp [dat]
theorem out1_ev {o : List Hf} {i : List Ot} (k : MI o i) {j : Nat} (hj : j < 4) : ∃ E : List Ev, E.map Ev.enc = (mout1 o i j).1 ∧ (∀ e ∈ E, e.ok) ∧ ∀ c, Sent E c (if j = c then (hg o j).wait.take (cutn (hg o j).wait (hg o j).credit) else []) (if j = c then (og i j).untold.toNat else 0)
    (if j = c ∧ mend (hg o j) ((hg o j).wait.drop (cutn (hg o j).wait (hg o j).credit)) = true then 1 else 0) := by
  obtain ⟨E, h1, h2, h3⟩ := mcut_ev j hj _ (hg o j).wait (hg o j).credit (Nat.le_refl _) (k.cr0 j)
  have h4 := mcut_rest j _ (hg o j).wait (hg o j).credit (Nat.le_refl _) (k.cr0 j)
  have hu0 := k.u0 j
  have hu1 := k.sum j hj
  have hr0 := k.r0 j
  obtain ⟨e, he⟩ : ∃ e, e = mend (hg o j) ((hg o j).wait.drop (cutn (hg o j).wait (hg o j).credit)) := ⟨_, rfl⟩
  refine ⟨E ++ ((if e then [.e j] else []) ++ (if 0 < (og i j).untold then [.k j (og i j).untold.toNat] else [])), ?_, ?_, fun c => ?_⟩
  · simp only [mout1, h4, ← he, List.map_append, h1]
    congr 2
    · cases e <;> rfl
    · split <;> rfl
  · intro x hx
    simp only [List.mem_append] at hx
    rcases hx with hx | hx | hx
    · exact h2 x hx
    · split at hx
      · obtain rfl := List.mem_singleton.1 hx; exact hj
      · cases hx
    · split at hx
      · obtain rfl := List.mem_singleton.1 hx; exact ⟨hj, by omega⟩
      · cases hx
  · have a1 : dat c (if e then [Ev.e j] else []) = [] := by cases e <;> rfl
    have a2 : dat c (if 0 < (og i j).untold then [Ev.k j (og i j).untold.toNat] else []) = [] := by split <;> rfl
    have b1 : crd c (if e then [Ev.e j] else []) = 0 := by cases e <;> rfl
    have b2 : crd c (if 0 < (og i j).untold then [Ev.k j (og i j).untold.toNat] else []) = if j = c then (og i j).untold.toNat else 0 := by
      split
      · simp [crd]
      · have : (og i j).untold.toNat = 0 := by omega
        simp [crd, this]
    have c1 : ends c (if e then [Ev.e j] else []) = if j = c ∧ e = true then 1 else 0 := by
      cases e
      · simp [ends]
      · simp [ends]
    have c2 : ends c (if 0 < (og i j).untold then [Ev.k j (og i j).untold.toNat] else []) = 0 := by split <;> rfl
    have d1 : aft c (if e then [Ev.e j] else []) := by
      cases e
      · exact trivial
      · exact ⟨fun _ => rfl, trivial⟩
    have d2 : aft c (if 0 < (og i j).untold then [Ev.k j (og i j).untold.toNat] else []) := by split <;> exact trivial
    rw [← he]
    refine ⟨?_, ?_, ?_, ?_⟩
    · rw [dat_app, dat_app, a1, a2, (h3 c).d]; simp
    · rw [crd_app, crd_app, b1, b2, (h3 c).k]; omega
    · rw [ends_app, ends_app, c1, c2, (h3 c).e]; omega
    · refine aft_app c _ _ (h3 c).a (aft_app c _ _ d1 d2 fun _ => a2) fun hh => ?_
      rw [(h3 c).e] at hh; exact absurd rfl hh
def cutOf (x : Hf) : Nat := cutn x.wait x.credit
def finOf (x : Hf) : Bool := mend x (x.wait.drop (cutOf x))
theorem outN_ev {o : List Hf} {i : List Ot} (k : MI o i) : ∀ j, j ≤ 4 → ∃ E : List Ev, E.map Ev.enc = (moutN o i j).1 ∧ (∀ e ∈ E, e.ok) ∧
    ∀ c, Sent E c (if c < j then (hg o c).wait.take (cutOf (hg o c)) else []) (if c < j then (og i c).untold.toNat else 0) (if c < j ∧ finOf (hg o c) = true then 1 else 0)
  | 0, _ => ⟨[], rfl, fun e he => (by cases he), fun c => ⟨by simp [dat], by simp [crd], by simp [ends], trivial⟩⟩
  | j + 1, hj => by
    obtain ⟨E, h1, h2, h3⟩ := outN_ev k j (by omega)
    obtain ⟨E2, g1, g2, g3⟩ := out1_ev (k.outN j (by omega)).1 (j := j) (by omega)
    rw [moutN_o j j (Nat.le_refl _), moutN_i' j j (Nat.le_refl _)] at g3
    refine ⟨E ++ E2, by rw [List.map_append, h1, g1]; rfl, fun e he => ?_, fun c => ?_⟩
    · rcases List.mem_append.1 he with he | he
      · exact h2 e he
      · exact g2 e he
    · obtain ⟨p1, p2, p3, p4⟩ := h3 c
      obtain ⟨q1, q2, q3, q4⟩ := g3 c
      by_cases hc : c = j
      · subst hc
        rw [if_neg (by omega)] at p1 p2
        rw [if_neg (by omega)] at p3
        rw [if_pos rfl] at q1 q2
        refine ⟨?_, ?_, ?_, ?_⟩
        · rw [dat_app, p1, q1, if_pos (by omega)]; rfl
        · rw [crd_app, p2, q2, if_pos (by omega)]; omega
        · rw [ends_app, p3, q3]
          simp [finOf, cutOf]
        · exact aft_app c _ _ p4 q4 fun hh => absurd p3 hh
      · rw [if_neg (Ne.symm hc)] at q1 q2
        rw [if_neg (fun h => hc h.1.symm)] at q3
        refine ⟨?_, ?_, ?_, aft_app c _ _ p4 q4 fun _ => q1⟩
        · rw [dat_app, p1, q1, List.append_nil]
          by_cases h : c < j
          · rw [if_pos h, if_pos (by omega)]
          · rw [if_neg h, if_neg (by omega)]
        · rw [crd_app, p2, q2]
          by_cases h : c < j
          · rw [if_pos h, if_pos (by omega)]; rfl
          · rw [if_neg h, if_neg (by omega)]
        · rw [ends_app, p3, q3]
          by_cases h : c < j
          · have : c < j + 1 := by omega
            simp [h, this]
          · have : ¬ c < j + 1 := by omega
            simp [h, this]
theorem out1_st {o : List Hf} {i : List Ot} (k : MI o i) {j : Nat} (hj : j < 4) (c : Nat) : hg (mout1 o i j).2.1 c = (if c = j then ⟨(hg o j).wait.drop (cutOf (hg o j)), (hg o j).credit - cutOf (hg o j), (hg o j).closed, (hg o j).told || finOf (hg o j)⟩ else hg o c) ∧
    og (mout1 o i j).2.2 c = (if c = j then ⟨(og i j).come, (og i j).room + (og i j).untold, 0, (og i j).ended⟩ else og i c) := by
  have h4 := mcut_rest j _ (hg o j).wait (hg o j).credit (Nat.le_refl _) (k.cr0 j)
  have hu0 := k.u0 j
  constructor
  · simp only [mout1, h4]
    by_cases hc : c = j
    · subst hc; rw [hg_set (by rw [k.ol]; exact hj), if_pos rfl]; rfl
    · rw [hg_ne hc, if_neg hc]
  · simp only [mout1]
    by_cases hu : 0 < (og i j).untold
    · rw [if_pos hu]
      by_cases hc : c = j
      · subst hc; rw [og_set (by rw [k.il]; exact hj), if_pos rfl]
      · rw [og_ne hc, if_neg hc]
    · rw [if_neg hu]
      by_cases hc : c = j
      · subst hc
        rw [if_pos rfl]
        have : (og i c).untold = 0 := by omega
        rw [this]
        have e2 : og i c = ⟨(og i c).come, (og i c).room, (og i c).untold, (og i c).ended⟩ := rfl
        rw [e2, this]; simp
      · rw [if_neg hc]
theorem outN_st {o : List Hf} {i : List Ot} (k : MI o i) : ∀ j, j ≤ 4 → ∀ c, hg (moutN o i j).2.1 c = (if c < j then ⟨(hg o c).wait.drop (cutOf (hg o c)), (hg o c).credit - cutOf (hg o c), (hg o c).closed, (hg o c).told || finOf (hg o c)⟩ else hg o c) ∧
    og (moutN o i j).2.2 c = (if c < j then ⟨(og i c).come, (og i c).room + (og i c).untold, 0, (og i c).ended⟩ else og i c)
  | 0, _, c => ⟨by simp [moutN], by simp [moutN]⟩
  | j + 1, hj, c => by
    obtain ⟨h1, h2⟩ := outN_st k j (by omega) c
    obtain ⟨g1, g2⟩ := out1_st (k.outN j (by omega)).1 (j := j) (by omega) c
    rw [moutN_o j j (Nat.le_refl _)] at g1
    rw [moutN_i' j j (Nat.le_refl _)] at g2
    constructor
    · show hg (mout1 (moutN o i j).2.1 (moutN o i j).2.2 j).2.1 c = _
      rw [g1]
      by_cases hc : c = j
      · subst hc; rw [if_pos rfl, if_pos (by omega)]
      · rw [if_neg hc, h1]
        by_cases h : c < j
        · rw [if_pos h, if_pos (by omega)]
        · rw [if_neg h, if_neg (by omega)]
    · show og (mout1 (moutN o i j).2.1 (moutN o i j).2.2 j).2.2 c = _
      rw [g2]
      by_cases hc : c = j
      · subst hc; rw [if_pos rfl, if_pos (by omega)]
      · rw [if_neg hc, h2]
        by_cases h : c < j
        · rw [if_pos h, if_pos (by omega)]
        · rw [if_neg h, if_neg (by omega)]
theorem out_ev {o : List Hf} {i : List Ot} (k : MI o i) : ∃ E : List Ev, E.map Ev.enc = (mout o i).1 ∧ (∀ e ∈ E, e.ok) ∧
    ∀ c, c < 4 → Sent E c ((hg o c).wait.take (cutOf (hg o c))) (og i c).untold.toNat (if finOf (hg o c) = true then 1 else 0) := by
  obtain ⟨E, h1, h2, h3⟩ := outN_ev k 4 (by omega)
  refine ⟨E, h1, h2, fun c hc => ?_⟩
  have := h3 c
  rw [if_pos hc, if_pos hc] at this
  obtain ⟨p1, p2, p3, p4⟩ := this
  refine ⟨p1, p2, ?_, p4⟩
  rw [p3]; simp [hc]
theorem out_st {o : List Hf} {i : List Ot} (k : MI o i) {c : Nat} (hc : c < 4) : hg (mout o i).2.1 c = ⟨(hg o c).wait.drop (cutOf (hg o c)), (hg o c).credit - cutOf (hg o c), (hg o c).closed, (hg o c).told || finOf (hg o c)⟩ ∧
    og (mout o i).2.2 c = ⟨(og i c).come, (og i c).room + (og i c).untold, 0, (og i c).ended⟩ := by
  have := outN_st k 4 (by omega) c
  rw [if_pos hc, if_pos hc] at this
  exact this
end L18
