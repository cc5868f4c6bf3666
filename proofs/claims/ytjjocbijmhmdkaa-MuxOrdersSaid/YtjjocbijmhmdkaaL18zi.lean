import Derived.Test.YtjjocbijmhmdkaaL18zh
open Go Ab Go.Proofs
namespace L18
set_option autoImplicit false
set_option linter.unusedSimpArgs false
set_option linter.unusedVariables false

/-! ### What stays true of the two -/
def b2n (b : Bool) : Nat := if b then 1 else 0
structure CI (x : Hf) (y : Ot) (W Wb : List Ev) (wr rd : List UInt8) (cl : Bool) (c : Nat) : Prop where
  data : wr = rd ++ (y.come ++ (dat c W ++ x.wait))
  cred : x.credit + (dat c W).length + y.come.length + y.untold + crd c Wb = 1024
  fin : b2n y.ended + ends c W = b2n x.told
  told : x.told = true → x.closed = true ∧ x.wait = []
  gone : y.ended = true → dat c W = []
  aft : aft c W
  cl : cl = x.closed
structure Inv (P : PS) : Prop where
  mi : ∀ s, s < 2 → MI (P.o s) (P.i s)
  ex : ∃ E : Nat → List Ev, (∀ s, s < 2 → P.way s = (E s).map Ev.enc ∧ ∀ e ∈ E s, e.ok) ∧
    ∀ s c, s < 2 → c < 4 → CI (hg (P.o s) c) (og (P.i (1 - s)) c) (E (1 - s)) (E s) (P.wr (s * 4 + c)) (P.rd ((1 - s) * 4 + c)) (P.cl (s * 4 + c)) c
theorem side2 {s' s : Nat} (h : s < 2) (h' : s' < 2) : s' = s ∨ s' = 1 - s := by omega
theorem CI.pre {x : Hf} {y : Ot} {W Wb : List Ev} {wr rd : List UInt8} {cl : Bool} {c : Nat} (k : CI x y W Wb wr rd cl c) (n : Nat) : ∃ t, wr = rd ++ y.come.take n ++ t :=
  ⟨y.come.drop n ++ (dat c W ++ x.wait), by
    have e : y.come = y.come.take n ++ y.come.drop n := (List.take_append_drop n y.come).symm
    rw [k.data]
    simp only [List.append_assoc]
    rw [← List.append_assoc (List.take n y.come), ← e]⟩
theorem Inv.get {P : PS} (k : Inv P) {s c : Nat} (n : Int) (hs : s < 2) (hc : c < 4) : ∃ t, P.wr ((1 - s) * 4 + c) = P.rd (s * 4 + c) ++ (mread (P.i s) c n).1 ++ t := by
  obtain ⟨E, h1, h2⟩ := k.ex
  have ci := h2 (1 - s) c (by omega) hc
  rw [show 1 - (1 - s) = s by omega] at ci
  unfold mread
  split
  · obtain ⟨t, ht⟩ := ci.pre 0
    exact ⟨t, by simpa using ht⟩
  · exact ci.pre _
/-- A frame that comes is taken. -/
theorem Inv.take {P : PS} (k : Inv P) {s : Nat} (hs : s < 2) {f : Fr} {W : List Fr} (hW : P.way s = f :: W) : (mtake (P.o s) (P.i s) f).1 = 0 ∧ Inv (pstep1 P s f W) := by
  obtain ⟨E, h1, h2⟩ := k.ex
  obtain ⟨hw, hok⟩ := h1 s hs
  have mi := k.mi s hs
  have ht : 1 - s < 2 := by omega
  have hts : 1 - (1 - s) = s := by omega
  obtain ⟨e, E', hE⟩ : ∃ e E', E s = e :: E' := by
    cases hh : E s with
    | nil => rw [hh] at hw; rw [hw] at hW; cases hW
    | cons e E' => exact ⟨e, E', rfl⟩
  rw [hE] at hw hok
  rw [hw, List.map_cons, List.cons.injEq] at hW
  obtain ⟨rfl, rfl⟩ := hW
  have he := hok e (by simp)
  have hok' : ∀ x ∈ E', x.ok := fun x hx => hok x (List.mem_cons_of_mem _ hx)
  have hne : (1 - s) ≠ s := by omega
  have mk : ∀ (o2 : List Hf) (i2 : List Ot), MI o2 i2 → (∀ c, c < 4 → CI (hg o2 c) (og (P.i (1 - s)) c) (E (1 - s)) E' (P.wr (s * 4 + c)) (P.rd ((1 - s) * 4 + c)) (P.cl (s * 4 + c)) c) → (∀ c, c < 4 → CI (hg (P.o (1 - s)) c) (og i2 c) E' (E (1 - s)) (P.wr ((1 - s) * 4 + c)) (P.rd (s * 4 + c)) (P.cl ((1 - s) * 4 + c)) c) →
      Inv { P with way := up P.way s (E'.map Ev.enc), o := up P.o s o2, i := up P.i s i2 } := fun o2 i2 m2 a1 a2 => by
    refine ⟨fun s' hs' => ?_, up E s E', fun s' hs' => ?_, fun s' c hs' hc => ?_⟩
    · rcases side2 hs hs' with rfl | rfl
      · simp only [up_same]; exact m2
      · simp only [up_ne _ _ hne]; exact k.mi _ ht
    · rcases side2 hs hs' with rfl | rfl
      · simp only [up_same]; exact ⟨trivial, hok'⟩
      · simp only [up_ne _ _ hne]; exact h1 _ ht
    · rcases side2 hs hs' with rfl | rfl
      · simp only [up_same, up_ne _ _ hne]; exact a1 c hc
      · simp only [hts, up_same, up_ne _ _ hne]; exact a2 c hc
  have c1 := fun c hc => h2 s c hs hc
  have c2 := fun c hc => h2 (1 - s) c ht hc
  rw [hE] at c1
  simp only [hts, hE] at c2
  cases e with
  | d c b =>
    obtain ⟨hc, hb, hbl⟩ := he
    obtain ⟨d1, d2, d3, d4, d5, d6, d7⟩ := c2 c hc
    have hend : (og (P.i s) c).ended = false := by
      rw [Bool.eq_false_iff]; intro hh
      have := d5 hh
      simp [dat] at this
      exact hb this.1
    have hsum := mi.sum c hc
    have hcr := (k.mi _ ht).cr0 c
    simp only [dat, if_true, List.length_append] at d2
    have hroom : (b.length : Int) ≤ (og (P.i s) c).room := by omega
    have T := mtake_data (o := P.o s) (i := P.i s) hc hend hroom
    have hil : c < (P.i s).length := by rw [mi.il]; exact hc
    have mi2 := mi.take ((c : Int), b)
    simp only [Ev.enc] at *
    rw [T] at mi2 ⊢
    refine ⟨rfl, ?_⟩
    have := mk _ _ mi2 (fun c' hc' => ?_) (fun c' hc' => ?_)
    · simpa [pstep1, T] using this
    · obtain ⟨a1, a2, a3, a4, a5, a6, a7⟩ := c1 c' hc'
      exact ⟨a1, a2, a3, a4, a5, a6, a7⟩
    · by_cases e : c' = c
      · subst e
        rw [og_set hil]
        refine ⟨?_, ?_, ?_, d4, fun h => (by cases h), d6, d7⟩
        · rw [d1]; simp [dat]
        · simp only [List.length_append]; omega
        · rw [hend] at d3; simpa [ends] using d3
      · rw [og_ne e]
        obtain ⟨a1, a2, a3, a4, a5, a6, a7⟩ := c2 c' hc'
        have ed : dat c' (Ev.d c b :: E') = dat c' E' := by simp [dat, Ne.symm e]
        rw [ed] at a1 a2 a5
        exact ⟨a1, a2, a3, a4, a5, a6, a7⟩
  | e c =>
    have hc : c < 4 := he
    obtain ⟨d1, d2, d3, d4, d5, d6, d7⟩ := c2 c hc
    have hend : (og (P.i s) c).ended = false := by
      rw [Bool.eq_false_iff]; intro hh
      rw [hh] at d3
      have : b2n (hg (P.o (1 - s)) c).told ≤ 1 := by unfold b2n; split <;> omega
      simp [ends, b2n] at d3
      unfold b2n at this
      omega
    have T := mtake_end (o := P.o s) (i := P.i s) hc hend
    have hil : c < (P.i s).length := by rw [mi.il]; exact hc
    have mi2 := mi.take (toldF 2 c 0)
    simp only [Ev.enc] at *
    rw [T] at mi2 ⊢
    refine ⟨rfl, ?_⟩
    have := mk _ _ mi2 (fun c' hc' => ?_) (fun c' hc' => ?_)
    · simpa [pstep1, T] using this
    · obtain ⟨a1, a2, a3, a4, a5, a6, a7⟩ := c1 c' hc'
      exact ⟨a1, a2, a3, a4, a5, a6, a7⟩
    · by_cases e : c' = c
      · subst e
        rw [og_set hil]
        refine ⟨d1, d2, ?_, d4, fun _ => d6.1 rfl, d6.2, d7⟩
        rw [hend] at d3
        simp [ends, b2n] at d3 ⊢; omega
      · rw [og_ne e]
        obtain ⟨a1, a2, a3, a4, a5, a6, a7⟩ := c2 c' hc'
        have ee : ends c' (Ev.e c :: E') = ends c' E' := by simp [ends, Ne.symm e]
        rw [ee] at a3
        exact ⟨a1, a2, a3, a4, a5, a6.2, a7⟩
  | k c n =>
    obtain ⟨hc, hn⟩ := he
    obtain ⟨d1, d2, d3, d4, d5, d6, d7⟩ := c1 c hc
    have hsum := (k.mi _ ht).sum c hc
    have hu0 := (k.mi _ ht).u0 c
    simp only [crd, if_true] at d2
    have hle : ¬ 1024 - (hg (P.o s) c).credit < n := by omega
    have T : mtake (P.o s) (P.i s) (ctl c n) = _ := take_ctl (o := P.o s) (i := P.i s) hc (by omega)
    rw [if_neg hle] at T
    have ect : toldF 1 c n = ctl c n := rfl
    have hol : c < (P.o s).length := by rw [mi.ol]; exact hc
    have mi2 := mi.take (ctl c n)
    simp only [Ev.enc, ect] at *
    rw [T] at mi2 ⊢
    refine ⟨rfl, ?_⟩
    have := mk _ _ mi2 (fun c' hc' => ?_) (fun c' hc' => ?_)
    · simpa [pstep1, T] using this
    · by_cases e : c' = c
      · subst e
        rw [hg_set hol]
        refine ⟨d1, ?_, d3, d4, d5, d6, d7⟩
        simp only; omega
      · rw [hg_ne e]
        obtain ⟨a1, a2, a3, a4, a5, a6, a7⟩ := c1 c' hc'
        have ek : crd c' (Ev.k c n :: E') = crd c' E' := by simp [crd, Ne.symm e]
        rw [ek] at a2
        exact ⟨a1, a2, a3, a4, a5, a6, a7⟩
    · obtain ⟨a1, a2, a3, a4, a5, a6, a7⟩ := c2 c' hc'
      exact ⟨a1, a2, a3, a4, a5, a6, a7⟩
end L18
