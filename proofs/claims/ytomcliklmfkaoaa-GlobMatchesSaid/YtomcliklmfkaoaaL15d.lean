import Derived.Test.YtomcliklmfkaoaaL15c
open Go Ab Go.Proofs
namespace L15
set_option autoImplicit false
set_option linter.unusedSimpArgs false
set_option linter.unusedVariables false

theorem prs_bound : ∀ (s : List UInt8) {ps : List Pt}, prs s = some ps → ps.length ≤ s.length ∧ ∀ p ∈ ps, p.rs.length ≤ s.length := fun s ps h => by
  match e : tok s with
  | .fin => rw [prs_fin e] at h; cases h; simp
  | .bad => rw [prs_bad e] at h; cases h
  | .one p r =>
    have hl := tok_len e
    rw [prs_one e] at h
    simp only [Option.map_eq_some_iff] at h
    obtain ⟨ps', h1, rfl⟩ := h
    have := prs_bound r h1
    refine ⟨by simp; omega, fun q hq => ?_⟩
    rcases List.mem_cons.1 hq with rfl | hq
    · exact hl.2
    · have := this.2 q hq; omega
termination_by s => s.length
theorem parse_bound (s : List UInt8) : (parseR s).1.length ≤ 32 ∧ ∀ p ∈ (parseR s).1, p.rs.length ≤ 32 := by
  unfold parseR
  split
  · simp
  · split
    · simp
    · rename_i ps h
      have := prs_bound s h
      refine ⟨by simp only; omega, fun p hp => ?_⟩
      have := this.2 p hp; omega

/-- Is a text, whole, one of some parts? -/
def mt : List Pt → List UInt8 → Bool
  | [], t => t.isEmpty
  | p :: ps, t => if p.kd = 3 then (List.range (t.length + 1)).any fun n => mt ps (t.drop n) else match t with
      | [] => false
      | c :: t' => fits p c && mt ps t'
theorem mt_run {p : Pt} {ps : List Pt} {t : List UInt8} (h : p.kd = 3) : mt (p :: ps) t = true ↔ ∃ n, n ≤ t.length ∧ mt ps (t.drop n) = true := by
  simp only [mt, h, if_true, List.any_eq_true, List.mem_range]
  constructor
  · rintro ⟨n, h1, h2⟩; exact ⟨n, by omega, h2⟩
  · rintro ⟨n, h1, h2⟩; exact ⟨n, by omega, h2⟩
theorem mt_one {p : Pt} {ps : List Pt} {c : UInt8} {t : List UInt8} (h : p.kd ≠ 3) : mt (p :: ps) (c :: t) = (fits p c && mt ps t) := by simp [mt, h]
theorem mt_none {p : Pt} {ps : List Pt} (h : p.kd ≠ 3) : mt (p :: ps) [] = false := by simp [mt, h]
theorem mt_absorb {p : Pt} {ps : List Pt} {T : List UInt8} (h : p.kd = 3) {i j : Nat} (hij : i ≤ j) (hj : j ≤ T.length) (k : mt (p :: ps) (T.drop j) = true) : mt (p :: ps) (T.drop i) = true := by
  rw [mt_run h] at k ⊢
  obtain ⟨n, h1, h2⟩ := k
  rw [List.length_drop] at h1
  refine ⟨(j - i) + n, by rw [List.length_drop]; omega, ?_⟩
  rw [List.drop_drop] at h2 ⊢
  rw [show i + (j - i + n) = j + n by omega]; exact h2
/-- Parts that are single bytes take just as many. -/
theorem mt_seg {ps : List Pt} {T : List UInt8} : ∀ (n b f : Nat), f ≤ T.length → (∀ k, b ≤ k → k < b + n → ∀ p, ps[k]? = some p → p.kd ≠ 3) → b + n ≤ ps.length → mt (ps.drop b) (T.drop f) = true → f + n ≤ T.length ∧ mt (ps.drop (b + n)) (T.drop (f + n)) = true
  | 0, b, f, hf, _, _, h => ⟨by omega, h⟩
  | n + 1, b, f, hf, hk, hb, h => by
    have hlt : b < ps.length := by omega
    rw [List.drop_eq_getElem_cons hlt] at h
    have hkd := hk b (by omega) (by omega) ps[b] (List.getElem?_eq_getElem hlt)
    by_cases hft : f < T.length
    · rw [List.drop_eq_getElem_cons hft, mt_one hkd, Bool.and_eq_true] at h
      have := mt_seg n (b + 1) (f + 1) (by omega) (fun k h1 h2 => hk k (by omega) (by omega)) (by omega) h.2
      rw [show b + 1 + n = b + (n + 1) by omega, show f + 1 + n = f + (n + 1) by omega] at this
      exact this
    · have e : T.drop f = [] := List.drop_of_length_le (by omega)
      rw [e, mt_none hkd] at h
      cases h

structure MI (ps : List Pt) (T : List UInt8) (at_ i fr : Nat) (bk : Option Nat) : Prop where
  ha : at_ ≤ ps.length
  hi : i ≤ T.length
  hf : fr ≤ i
  hn : bk = none → (mt ps T = true ↔ mt (ps.drop at_) (T.drop i) = true)
  hs : ∀ b, bk = some b → b ≤ at_ ∧ i = fr + (at_ - b) ∧ (∀ k, b ≤ k → k < at_ → ∀ p, ps[k]? = some p → p.kd ≠ 3) ∧ (mt ps T = true ↔ (mt (ps.drop at_) (T.drop i) = true ∨ ∃ f, fr < f ∧ f ≤ T.length ∧ mt (ps.drop b) (T.drop f) = true))

theorem MI.start (ps : List Pt) (T : List UInt8) : MI ps T 0 0 0 none := ⟨by omega, by omega, by omega, fun _ => (by simp), fun b h => (by cases h)⟩
/-- At a run only what is behind counts. -/
theorem MI.atRun {ps : List Pt} {T : List UInt8} {at_ i fr : Nat} {bk : Option Nat} (k : MI ps T at_ i fr bk) {p : Pt} (hp : ps[at_]? = some p) (h3 : p.kd = 3) : mt ps T = true ↔ mt (ps.drop at_) (T.drop i) = true := by
  have hlt := (List.getElem?_eq_some_iff.1 hp).1
  cases hb : bk with
  | none => exact k.hn hb
  | some b =>
    obtain ⟨h1, h2, h4, h5⟩ := k.hs b hb
    rw [h5]
    constructor
    · rintro (h | ⟨f, hf1, hf2, hf3⟩)
      · exact h
      · obtain ⟨g1, g2⟩ := mt_seg (at_ - b) b f hf2 (fun j h6 h7 => h4 j h6 (by omega)) (by omega) hf3
        rw [show b + (at_ - b) = at_ by omega] at g2
        obtain ⟨hx, hy⟩ := List.getElem?_eq_some_iff.1 hp
        rw [List.drop_eq_getElem_cons hlt, hy] at g2 ⊢
        exact mt_absorb h3 (by omega) g1 g2
    · exact fun h => .inl h
theorem MI.run {ps : List Pt} {T : List UInt8} {at_ i fr : Nat} {bk : Option Nat} (k : MI ps T at_ i fr bk) {p : Pt} (hp : ps[at_]? = some p) (h3 : p.kd = 3) : MI ps T (at_ + 1) i i (some (at_ + 1)) := by
  have hlt := (List.getElem?_eq_some_iff.1 hp).1
  refine ⟨by omega, k.hi, Nat.le_refl _, fun h => (by cases h), fun b hb => ?_⟩
  obtain rfl := Option.some.inj hb
  refine ⟨Nat.le_refl _, by omega, fun j h1 h2 => by omega, ?_⟩
  rw [k.atRun hp h3]
  obtain ⟨hx, hy⟩ := List.getElem?_eq_some_iff.1 hp
  have hi := k.hi
  rw [List.drop_eq_getElem_cons hlt, hy, mt_run h3]
  constructor
  · rintro ⟨n, h1, h2⟩
    rw [List.length_drop] at h1
    rw [List.drop_drop] at h2
    rcases Nat.eq_zero_or_pos n with rfl | hn
    · exact .inl h2
    · exact .inr ⟨i + n, by omega, by omega, h2⟩
  · rintro (h | ⟨f, h1, h2, h4⟩)
    · exact ⟨0, by omega, by simpa using h⟩
    · exact ⟨f - i, by rw [List.length_drop]; omega, by rw [List.drop_drop, show i + (f - i) = f by omega]; exact h4⟩
theorem MI.step {ps : List Pt} {T : List UInt8} {at_ i fr : Nat} {bk : Option Nat} (k : MI ps T at_ i fr bk) {p : Pt} (hp : ps[at_]? = some p) (h3 : p.kd ≠ 3) {c : UInt8} (hc : T[i]? = some c) (hf : fits p c = true) : MI ps T (at_ + 1) (i + 1) fr bk := by
  obtain ⟨hlt, hy⟩ := List.getElem?_eq_some_iff.1 hp
  obtain ⟨hit, hy2⟩ := List.getElem?_eq_some_iff.1 hc
  have e : mt (ps.drop at_) (T.drop i) = mt (ps.drop (at_ + 1)) (T.drop (i + 1)) := by
    rw [List.drop_eq_getElem_cons hlt, List.drop_eq_getElem_cons hit, hy, hy2, mt_one h3, hf, Bool.true_and]
  refine ⟨by omega, by omega, by have := k.hf; omega, fun h => (by rw [k.hn h, e]), fun b hb => ?_⟩
  obtain ⟨h1, h2, h4, h5⟩ := k.hs b hb
  refine ⟨by omega, by omega, fun j g1 g2 q hq => ?_, by rw [h5, e]⟩
  by_cases hj : j = at_
  · subst hj; rw [hp] at hq; obtain rfl := Option.some.inj hq; exact h3
  · exact h4 j g1 (by omega) q hq
/-- Nothing fits here. -/
theorem mt_stuck {ps : List Pt} {T : List UInt8} {at_ i : Nat} (hi : i < T.length) (h : ps[at_]? = none ∨ ∃ p c, ps[at_]? = some p ∧ p.kd ≠ 3 ∧ T[i]? = some c ∧ fits p c = false) : mt (ps.drop at_) (T.drop i) = false := by
  rcases h with h | ⟨p, c, hp, h3, hc, hf⟩
  · rw [List.drop_of_length_le (List.getElem?_eq_none_iff.1 h), List.drop_eq_getElem_cons hi]; rfl
  · obtain ⟨hlt, hy⟩ := List.getElem?_eq_some_iff.1 hp
    obtain ⟨hit, hy2⟩ := List.getElem?_eq_some_iff.1 hc
    rw [List.drop_eq_getElem_cons hlt, List.drop_eq_getElem_cons hit, hy, hy2, mt_one h3, hf, Bool.false_and]
theorem MI.back {ps : List Pt} {T : List UInt8} {at_ i fr b : Nat} (k : MI ps T at_ i fr (some b)) (hi : i < T.length) (hs : mt (ps.drop at_) (T.drop i) = false) : MI ps T b (fr + 1) (fr + 1) (some b) := by
  obtain ⟨h1, h2, h4, h5⟩ := k.hs b rfl
  have := k.ha
  refine ⟨by omega, by omega, Nat.le_refl _, fun h => (by cases h), fun b' hb => ?_⟩
  obtain rfl := Option.some.inj hb
  refine ⟨Nat.le_refl _, by omega, fun j g1 g2 => by omega, ?_⟩
  rw [h5, hs]
  constructor
  · rintro (h | ⟨f, g1, g2, g3⟩)
    · cases h
    · by_cases hf : f = fr + 1
      · subst hf; exact .inl g3
      · exact .inr ⟨f, by omega, g2, g3⟩
  · rintro (h | ⟨f, g1, g2, g3⟩)
    · exact .inr ⟨fr + 1, by omega, by omega, h⟩
    · exact .inr ⟨f, by omega, g2, g3⟩
theorem MI.fail {ps : List Pt} {T : List UInt8} {at_ i fr : Nat} (k : MI ps T at_ i fr none) (hs : mt (ps.drop at_) (T.drop i) = false) : mt ps T = false := by
  have := k.hn rfl
  rw [hs] at this
  cases h : mt ps T
  · rfl
  · exact absurd (this.1 h) (by simp)
theorem MI.fin {ps : List Pt} {T : List UInt8} {at_ i fr : Nat} {bk : Option Nat} (k : MI ps T at_ i fr bk) (hi : i = T.length) : mt ps T = mt (ps.drop at_) [] := by
  have e : T.drop i = [] := List.drop_of_length_le (by omega)
  have key : mt ps T = true ↔ mt (ps.drop at_) [] = true := by
    cases hb : bk with
    | none => have := k.hn hb; rwa [e] at this
    | some b =>
      obtain ⟨h1, h2, h4, h5⟩ := k.hs b hb
      rw [h5, e]
      constructor
      · rintro (h | ⟨f, g1, g2, g3⟩)
        · exact h
        · have := (mt_seg (at_ - b) b f g2 (fun j h6 h7 => h4 j h6 (by omega)) (by have := k.ha; omega) g3).1
          omega
      · exact fun h => .inl h
  cases h : mt ps T <;> cases h2 : mt (ps.drop at_) [] <;> simp_all
theorem mt_runs {p : Pt} {ps : List Pt} (h : p.kd = 3) : mt (p :: ps) [] = mt ps [] := by
  have := mt_run (p := p) (ps := ps) (t := []) h
  have k : mt (p :: ps) [] = true ↔ mt ps [] = true := by
    rw [this]
    constructor
    · rintro ⟨n, h1, h2⟩; simpa using h2
    · intro h; exact ⟨0, by simp, h⟩
  cases h1 : mt (p :: ps) [] <;> cases h2 : mt ps [] <;> simp_all
end L15
