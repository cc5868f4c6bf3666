import Derived.Test.YtaieafdiomknoaaDoorL22s
open Go Ab Go.Proofs
namespace L22
set_option autoImplicit false
set_option linter.unusedSimpArgs false
set_option linter.unusedVariables false

/-! ### What becomes whole, byte by byte, and where -/
def evp : Rd → Nat → List UInt8 → List (Tl × Nat)
  | _, _, [] => []
  | s, p, c :: l => if s.br = 0 then (takeR (clr s) c).out.map (fun x => (x, p + 1)) ++ evp (takeR (clr s) c) (p + 1) l else []
def fin : Rd → List UInt8 → Rd
  | s, [] => clr s
  | s, c :: l => if s.br = 0 then fin (takeR (clr s) c) l else clr s

theorem clr_clr (s : Rd) : clr (clr s) = clr s := rfl
theorem evp_clr (s : Rd) (p : Nat) (l : List UInt8) : evp (clr s) p l = evp s p l := by cases l <;> rfl
theorem fin_clr (s : Rd) (l : List UInt8) : fin (clr s) l = fin s l := by cases l <;> rfl
theorem clr_fin : ∀ (l : List UInt8) (s : Rd), clr (fin s l) = fin s l
  | [], s => rfl
  | c :: l, s => by
    rw [fin]; split
    · exact clr_fin l _
    · rfl
theorem fin_stop {s : Rd} (h : ¬ s.br = 0) : ∀ l, fin s l = clr s
  | [] => rfl
  | c :: l => by rw [fin, if_neg h]
theorem evp_stop {s : Rd} {p : Nat} (h : ¬ s.br = 0) : ∀ l, evp s p l = []
  | [] => rfl
  | c :: l => by rw [evp, if_neg h]
theorem fin_append : ∀ (a : List UInt8) (s : Rd) (b : List UInt8), fin s (a ++ b) = fin (fin s a) b
  | [], s, b => by rw [List.nil_append, fin, fin_clr]
  | c :: a, s, b => by
    by_cases h : s.br = 0
    · rw [List.cons_append, fin, if_pos h, fin, if_pos h, fin_append a]
    · rw [List.cons_append, fin, if_neg h, fin, if_neg h, fin_clr, fin_stop h]
theorem evp_append : ∀ (a : List UInt8) (s : Rd) (p : Nat) (b : List UInt8), evp s p (a ++ b) = evp s p a ++ evp (fin s a) (p + a.length) b
  | [], s, p, b => by rw [fin, evp_clr]; rfl
  | c :: a, s, p, b => by
    by_cases h : s.br = 0
    · rw [List.cons_append, evp, if_pos h, evp, if_pos h, fin, if_pos h, evp_append a, List.append_assoc, List.length_cons, show p + 1 + a.length = p + (a.length + 1) by omega]
    · rw [List.cons_append, evp, if_neg h, evp, if_neg h, fin, if_neg h, evp_clr, evp_stop h]; rfl
theorem evp_pos : ∀ (l : List UInt8) (s : Rd) (p : Nat), ∀ x ∈ evp s p l, p < x.2 ∧ x.2 ≤ p + l.length
  | [], s, p, x, h => by simp [evp] at h
  | c :: l, s, p, x, h => by
    rw [evp] at h
    split at h
    · rcases List.mem_append.1 h with h | h
      · obtain ⟨y, _, rfl⟩ := List.mem_map.1 h
        simp
      · have := evp_pos l _ _ x h
        simp; omega
    · simp at h

/-- A part behind parts, with data put together. -/
def putStep (X : List Tl) (x : Tl) : List Tl := match X.getLast? with
  | some y => if x.1.1 = 1 ∧ y.1.1 = 1 then X.dropLast ++ [(y.1, y.2 ++ x.2)] else X ++ [x]
  | none => [x]
def putL (l : List Tl) : List Tl := l.foldl putStep []
theorem putStep_nil (x : Tl) : putStep [] x = [x] := rfl
theorem putStep_append (l : List Tl) (y x : Tl) : putStep (l ++ [y]) x = if x.1.1 = 1 ∧ y.1.1 = 1 then l ++ [(y.1, y.2 ++ x.2)] else l ++ [y] ++ [x] := by
  simp [putStep]
theorem addData_put (X : List Tl) (c : UInt8) : addData X c = putStep X ((1, 0, 0), [c]) := by
  rcases List.eq_nil_or_concat X with rfl | ⟨l, y, rfl⟩
  · rfl
  · rw [List.concat_eq_append, addData_append, putStep_append]
    by_cases h : y.1.1 = 1 <;> simp [h]
theorem putStep_other (X : List Tl) (x : Tl) (h : ¬ x.1.1 = 1) : putStep X x = X ++ [x] := by
  rcases List.eq_nil_or_concat X with rfl | ⟨l, y, rfl⟩
  · rfl
  · rw [List.concat_eq_append, putStep_append, if_neg (fun e => h e.1)]

def withO (s : Rd) (X : List Tl) : Rd := { s with out := X }
theorem takeR_put {s : Rd} {c : UInt8} (h : ¬ s.pk = 1) : takeR s c = withO (takeR (clr s) c) ((takeR (clr s) c).out.foldl putStep s.out) := by
  obtain ⟨st, pk, pv, po, pd, out, br⟩ := s
  dsimp only at h
  by_cases hp : 3000 ≤ pd.length
  all_goals
    simp only [takeR, clr, commandR, dataR, moreR, wholeR, addData_put, withO, hp, if_true, if_false, reduceIte]
    repeat' split
  all_goals first | rfl | (simp_all [putStep_nil, putStep_other, List.foldl]; done)
theorem takeR_pk {s : Rd} {c : UInt8} (h : ¬ s.pk = 1) : ¬ (takeR s c).pk = 1 := by
  obtain ⟨st, pk, pv, po, pd, out, br⟩ := s
  dsimp only at h
  simp only [takeR, clr, commandR, dataR, moreR, wholeR]
  repeat' split
  all_goals first | exact h | (simp; done)
theorem withO_withO (s : Rd) (X Y : List Tl) : withO (withO s X) Y = withO s Y := rfl
theorem clr_withO (s : Rd) (X : List Tl) : clr (withO s X) = clr s := rfl
/-- What is fed comes to what becomes whole, put together. -/
theorem feedL_evp : ∀ (l : List UInt8) (s : Rd) (p : Nat), ¬ s.pk = 1 → feedL s l = withO (fin s l) (((evp s p l).map Prod.fst).foldl putStep s.out)
  | [], s, p, h => rfl
  | c :: l, s, p, h => by
    by_cases hb : s.br = 0
    · rw [feedL, if_pos hb, fin, if_pos hb, evp, if_pos hb, List.map_append, List.map_map, List.foldl_append, show (Prod.fst ∘ fun x : Tl => (x, p + 1)) = id from rfl, List.map_id]
      rw [feedL_evp l _ (p + 1) (takeR_pk h)]
      have e := takeR_put (c := c) h
      have e1 : fin (takeR s c) l = fin (takeR (clr s) c) l := by
        rw [e, ← fin_clr, clr_withO, fin_clr]
      have e2 : evp (takeR s c) (p + 1) l = evp (takeR (clr s) c) (p + 1) l := by
        rw [e, ← evp_clr, clr_withO, evp_clr]
      have e3 : (takeR s c).out = (takeR (clr s) c).out.foldl putStep s.out := by rw [e]; rfl
      rw [e1, e2, e3]
    · rw [feedL, if_neg hb, fin, if_neg hb, evp, if_neg hb]; rfl
theorem fin_pk : ∀ (l : List UInt8) (s : Rd), ¬ s.pk = 1 → ¬ (fin s l).pk = 1
  | [], s, h => h
  | c :: l, s, h => by
    rw [fin]; split
    · exact fin_pk l _ (takeR_pk (s := clr s) h)
    · exact h
/-- A piece behind all that came. -/
theorem feedR_br {s : Rd} {l : List UInt8} (h : ¬ s.pk = 1) : (feedR s l).br = (fin s l).br := by
  have e := feedL_evp l (clr s) 0 h
  unfold feedR
  split
  · rw [e, fin_clr]; rfl
  · rw [show (clr (feedL (clr s) l)).br = (feedL (clr s) l).br from rfl, e, fin_clr]; rfl
theorem feedR_clr {s : Rd} {l : List UInt8} (h : ¬ s.pk = 1) : clr (feedR s l) = fin s l := by
  have e := feedL_evp l (clr s) 0 h
  have e2 : clr (feedL (clr s) l) = fin s l := by rw [e, clr_withO, fin_clr, clr_fin]
  unfold feedR
  split
  · exact e2
  · rw [clr_clr, e2]
theorem feedR_out {s : Rd} {l : List UInt8} (p : Nat) (h : ¬ s.pk = 1) : (feedR s l).out = if (fin s l).br = 0 then putL ((evp s p l).map Prod.fst) else [] := by
  have e := feedL_evp l (clr s) p h
  have e2 : (feedL (clr s) l).br = (fin s l).br := by rw [e, fin_clr]; rfl
  unfold feedR
  rw [e2]
  split
  · rw [e, evp_clr]; rfl
  · rfl
theorem feedR_of_clr (s : Rd) (l : List UInt8) : feedR (clr s) l = feedR s l := rfl
theorem evp_between {A P : List UInt8} : (evp rd0 0 (A ++ P)).filter (fun x => decide (A.length < x.2) && decide (x.2 ≤ A.length + P.length)) = evp (fin rd0 A) A.length P := by
  rw [evp_append, List.filter_append, Nat.zero_add, List.filter_eq_nil_iff.2, List.filter_eq_self.2]
  · rfl
  · intro x hx
    have := evp_pos _ _ _ x hx
    simp; omega
  · intro x hx
    have := evp_pos _ _ _ x hx
    simp; omega
end L22
