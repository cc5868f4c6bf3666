import Derived.Test.YtjjocbijmhmdkaaL18o
open Go Ab Go.Proofs
namespace L18
set_option autoImplicit false
set_option linter.unusedSimpArgs false
set_option linter.unusedVariables false
attribute [local irreducible] mcells

/-! ### How much goes over a channel -/
def sentOf (c : Nat) : List Fr → Int
  | [] => 0
  | f :: fs => (if f.1 = (c : Int) then (f.2.length : Int) else 0) + sentOf c fs
theorem sentOf_app (c : Nat) : ∀ a b : List Fr, sentOf c (a ++ b) = sentOf c a + sentOf c b
  | [], b => by simp [sentOf]
  | f :: a, b => by simp only [List.cons_append, sentOf, sentOf_app c a b]; omega
theorem sentOf_pos (c : Nat) : ∀ a : List Fr, 0 ≤ sentOf c a
  | [] => by simp [sentOf]
  | f :: a => by
    have := sentOf_pos c a
    simp only [sentOf]; split <;> omega
theorem sentOf_take (c : Nat) (fs : List Fr) (k : Nat) : sentOf c (fs.take k) ≤ sentOf c fs := by
  have := sentOf_app c (fs.take k) (fs.drop k)
  rw [List.take_append_drop] at this
  have := sentOf_pos c (fs.drop k)
  omega
theorem mcut_sent (ch : Nat) : ∀ (k : Nat) (w : List UInt8) (cr : Int), w.length ≤ k → 0 ≤ cr → sentOf ch (mcut ch w cr).1 + (mcut ch w cr).2.2 = cr ∧ (∀ c, c ≠ ch → sentOf c (mcut ch w cr).1 = 0) ∧ ∀ f ∈ (mcut ch w cr).1, f.1 = (ch : Int)
  | k, w, cr, hk, hc => by
    by_cases h : 0 < w.length ∧ 0 < cr
    · obtain ⟨n, hn⟩ : ∃ n, n = min (min w.length cr.toNat) 512 := ⟨_, rfl⟩
      rw [mcut_step h hn]
      match k with
      | 0 => omega
      | k + 1 =>
        obtain ⟨h1, h2, h3⟩ := mcut_sent ch k (w.drop n) (cr - n) (by simp; omega) (by omega)
        refine ⟨?_, fun c hc => ?_, fun f hf => ?_⟩
        · simp only [sentOf, if_true, List.length_take]
          omega
        · simp only [sentOf, h2 c hc]
          rw [if_neg (by omega)]; rfl
        · rcases List.mem_cons.1 hf with rfl | hf
          · rfl
          · exact h3 f hf
    · rw [mcut_stop h]; simp [sentOf]
theorem told_sent {c op ch n : Nat} (hc : c < 4) : sentOf c [toldF op ch n] = 0 := by
  have h : ¬ (toldF op ch n).1 = (c : Int) := by show ¬ (4 : Int) = c; omega
  rw [sentOf, if_neg h]; rfl
theorem out1_sent {o : List Hf} {i : List Ot} (k : MI o i) {j c : Nat} (hj : j < 4) (hc : c < 4) : sentOf c (mout1 o i j).1 + (hg (mout1 o i j).2.1 c).credit = (hg o c).credit := by
  obtain ⟨h1, h2, _⟩ := mcut_sent j _ (hg o j).wait (hg o j).credit (Nat.le_refl _) (k.cr0 j)
  have a1 : ∀ (b : Bool) , sentOf c (if b = true then [toldF 2 j 0] else []) = 0 := fun b => by cases b <;> first | rfl | exact told_sent hc
  have a2 : ∀ (p : Prop) [Decidable p] (n : Nat), sentOf c (if p then [toldF 1 j n] else []) = 0 := fun p _ n => by split <;> first | rfl | exact told_sent hc
  simp only [mout1, sentOf_app, a1, a2]
  by_cases e : c = j
  · subst e
    rw [hg_set (by rw [k.ol]; exact hc)]
    simp only; omega
  · rw [hg_ne e, h2 c e]; simp
theorem out_sent {o : List Hf} {i : List Ot} (k : MI o i) {c : Nat} (hc : c < 4) : ∀ j, j ≤ 4 → sentOf c (moutN o i j).1 + (hg (moutN o i j).2.1 c).credit = (hg o c).credit
  | 0, _ => by simp [moutN, sentOf]
  | j + 1, hj => by
    have ih := out_sent k hc j (by omega)
    have := out1_sent (k.outN j (by omega)).1 (j := j) (by omega) hc
    simp only [moutN, sentOf_app]
    omega
theorem out1_ch {o : List Hf} {i : List Ot} (k : MI o i) {j : Nat} (hj : j < 4) : ∀ f ∈ (mout1 o i j).1, f.1 = (j : Int) ∨ f.1 = 4 := by
  obtain ⟨_, _, h3⟩ := mcut_sent j _ (hg o j).wait (hg o j).credit (Nat.le_refl _) (k.cr0 j)
  intro f hf
  simp only [mout1, List.mem_append] at hf
  rcases hf with hf | hf | hf
  · exact .inl (h3 f hf)
  · split at hf
    · obtain rfl := List.mem_singleton.1 hf; exact .inr rfl
    · cases hf
  · split at hf
    · obtain rfl := List.mem_singleton.1 hf; exact .inr rfl
    · cases hf
theorem out_ch {o : List Hf} {i : List Ot} (k : MI o i) : ∀ j, j ≤ 4 → ∀ f ∈ (moutN o i j).1, 0 ≤ f.1 ∧ f.1 ≤ 4
  | 0, _ => by simp [moutN]
  | j + 1, hj => by
    intro f hf
    simp only [moutN, List.mem_append] at hf
    rcases hf with hf | hf
    · exact out_ch k j (by omega) f hf
    · have := out1_ch (k.outN j (by omega)).1 (by omega) f hf
      omega
theorem write_credit (o : List Hf) (c : Int) (d : List UInt8) (e : Nat) (ho : o.length = 4) : (hg (mwrite o c d).2 e).credit = (hg o e).credit := by
  unfold mwrite
  split
  · rfl
  · split
    · rfl
    · rename_i h _
      simp only [ne_eq, Decidable.not_not] at h
      have := mopen_zero h
      by_cases he : e = c.toNat
      · subst he; rw [hg_set (by omega)]
      · rw [hg_ne he]

/-! ### Four numbers in a row -/
def ar (S : Nat → Int) : List Value := (List.range 4).map fun c => .int .i64 (S c)
def upd (S : Nat → Int) (c : Nat) (x : Int) : Nat → Int := fun d => if d = c then x else S d
theorem ar_len (S : Nat → Int) : (ar S).length = 4 := by simp [ar]
theorem ar_get (S : Nat → Int) {c : Nat} (h : c < 4) : (ar S)[c]? = some (.int .i64 (S c)) := by
  simp [ar, h]
theorem ar_g (S : Nat → Int) {c : Nat} (h : c < (ar S).length) : (ar S)[c] = .int .i64 (S c) := get_of (ar_get S (by rw [ar_len] at h; exact h)) h
theorem ar_set (S : Nat → Int) {c : Nat} (h : c < 4) (x : Int) : (ar S).set c (.int .i64 x) = ar (upd S c x) := by
  apply List.ext_getElem?
  intro m
  rw [List.getElem?_set]
  by_cases hm : m < 4
  · rw [ar_get _ hm, ar_get _ hm]
    by_cases e : c = m
    · subst e; simp [ar_len, upd, h]
    · simp [e, upd, Ne.symm e]
  · rw [List.getElem?_eq_none (by rw [ar_len]; omega), List.getElem?_eq_none (by rw [ar_len]; omega)]
    rw [if_neg (by omega)]
theorem upd_same (S : Nat → Int) (c : Nat) (x : Int) : upd S c x c = x := by simp [upd]
theorem upd_ne (S : Nat → Int) {c d : Nat} (x : Int) (h : d ≠ c) : upd S c x d = S d := by simp [upd, h]
def ctl (c n : Nat) : Fr := (4, [1, UInt8.ofNat c, UInt8.ofNat (n / 256), UInt8.ofNat (n % 256)])
theorem take_ctl {o : List Hf} {i : List Ot} {c n : Nat} (hc : c < 4) (hn : n < 65536) : mtake o i (ctl c n) = if 1024 - (hg o c).credit < n then (101, o, i) else (0, o.set c ⟨(hg o c).wait, (hg o c).credit + n, (hg o c).closed, (hg o c).told⟩, i) := by
  have e1 : (UInt8.ofNat c).toNat = c := by simp; omega
  have e2 : (UInt8.ofNat (n / 256)).toNat = n / 256 := by simp; omega
  have e3 : (UInt8.ofNat (n % 256)).toNat = n % 256 := by simp
  have e4 : 256 * (n / 256) + n % 256 = n := by omega
  simp only [mtake, ctl, if_true, mctrl, e1, e2, e3, e4]
  rw [if_neg (by omega)]
  rfl
end L18
