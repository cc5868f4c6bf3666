import Derived.Test.YtaieafdiomknoaaDoorL22l
open Go Ab Go.Proofs
namespace L22
set_option autoImplicit false
set_option linter.unusedSimpArgs false
set_option linter.unusedVariables false

/-! ### Byte by byte -/
def datas (l : List Tl) : List UInt8 := (l.map (·.2)).flatten
def verbsN (l : List Tl) : Nat := (l.filter fun f => f.1.1 == 2).length
structure Zs (s : Rd) : Prop where
  st : s.st = 0
  br : s.br = 0
  pd : s.pd = []
def OkRun : Rd → List UInt8 → List UInt8 → Nat → Prop
  | s, [], gs, n => gs = [] ∧ n = 0 ∧ Zs s
  | s, c :: l, gs, n => s.pd.length ≤ 3000 ∧ (feedR s [c]).br = 0 ∧ ∃ gs' n', gs = datas (feedR s [c]).out ++ gs' ∧ n = verbsN (feedR s [c]).out + n' ∧ OkRun (feedR s [c]) l gs' n'

theorem feed_byte {s : Rd} {c : UInt8} (h : s.br = 0) (h2 : (takeR (clr s) c).br = 0) : feedR s [c] = takeR (clr s) c := by
  have e : feedL (clr s) [c] = takeR (clr s) c := by
    rw [feedL_cons (by exact h)]; rfl
  unfold feedR
  rw [e, if_pos h2]

theorem OkRun.verb {y x : UInt8} (hy : 251 ≤ y) (hy2 : y ≠ 255) {s : Rd} (h : Zs s) : OkRun s [255, y, x] [] 1 := by
  obtain ⟨st, pk, pv, po, pd, out, br⟩ := s
  obtain ⟨h1, h2, h3⟩ := h
  simp only at h1 h2 h3
  subst h1 h2 h3
  have e1 : feedR ⟨0, pk, pv, po, [], out, 0⟩ [255] = ⟨1, pk, pv, po, [], [], 0⟩ := by rw [feed_byte rfl rfl]; rfl
  have t2 : takeR (clr ⟨1, pk, pv, po, [], [], 0⟩) y = ⟨2, 2, y.toNat, 0, [], [], 0⟩ := by simp [takeR, clr, commandR, hy, hy2]
  have e2 : feedR ⟨1, pk, pv, po, [], [], 0⟩ [y] = ⟨2, 2, y.toNat, 0, [], [], 0⟩ := by rw [feed_byte rfl (by rw [t2]), t2]
  have t3 : takeR (clr ⟨2, 2, y.toNat, 0, [], [], 0⟩) x = ⟨0, 0, 0, 0, [], [((2, y.toNat, x.toNat), [])], 0⟩ := by simp [takeR, clr, wholeR]
  have e3 : feedR ⟨2, 2, y.toNat, 0, [], [], 0⟩ [x] = ⟨0, 0, 0, 0, [], [((2, y.toNat, x.toNat), [])], 0⟩ := by rw [feed_byte rfl (by rw [t3]), t3]
  refine ⟨by simp, by rw [e1], [], 1, by rw [e1]; rfl, by rw [e1]; rfl, ?_⟩
  rw [e1]
  refine ⟨by simp, by rw [e2], [], 1, by rw [e2]; rfl, by rw [e2]; rfl, ?_⟩
  rw [e2]
  refine ⟨by simp, by rw [e3], [], 0, by rw [e3]; rfl, by rw [e3]; rfl, ?_⟩
  rw [e3]
  exact ⟨rfl, rfl, rfl, rfl, rfl⟩
theorem OkRun.data {b : List UInt8} {gs : List UInt8} {n : Nat} (hb : ∀ s, Zs s → OkRun s b gs n) : ∀ (d : List UInt8) (s : Rd), Zs s → OkRun s (esc d ++ b) (d ++ gs) n
  | [], s, h => hb s h
  | c :: d, s, h => by
    have ih := OkRun.data hb d
    obtain ⟨st, pk, pv, po, pd, out, br⟩ := s
    obtain ⟨h1, h2, h3⟩ := h
    simp only at h1 h2 h3
    subst h1 h2 h3
    rw [esc_cons]
    by_cases hc : c = 255
    · rw [if_pos hc]
      have e1 : feedR ⟨0, pk, pv, po, [], out, 0⟩ [255] = ⟨1, pk, pv, po, [], [], 0⟩ := by rw [feed_byte rfl rfl]; rfl
      have e2 : feedR ⟨1, pk, pv, po, [], [], 0⟩ [255] = ⟨0, pk, pv, po, [], [((1, 0, 0), [255])], 0⟩ := by rw [feed_byte rfl rfl]; rfl
      refine ⟨by simp, by rw [e1], c :: d ++ gs, n, by rw [e1]; rfl, by rw [e1]; simp [verbsN], ?_⟩
      rw [e1]
      refine ⟨by simp, by rw [e2], d ++ gs, n, by rw [e2, hc]; rfl, by rw [e2]; simp [verbsN], ?_⟩
      rw [e2]
      exact ih _ ⟨rfl, rfl, rfl⟩
    · rw [if_neg hc]
      have t1 : takeR (clr ⟨0, pk, pv, po, [], out, 0⟩) c = ⟨0, pk, pv, po, [], [((1, 0, 0), [c])], 0⟩ := by simp [takeR, clr, hc, dataR, addData]
      have e1 : feedR ⟨0, pk, pv, po, [], out, 0⟩ [c] = ⟨0, pk, pv, po, [], [((1, 0, 0), [c])], 0⟩ := by rw [feed_byte rfl (by rw [t1]), t1]
      refine ⟨by simp, by rw [e1], d ++ gs, n, by rw [e1]; rfl, by rw [e1]; simp [verbsN], ?_⟩
      rw [e1]
      exact ih _ ⟨rfl, rfl, rfl⟩

theorem datas_snoc {l : List Tl} {x : Tl} : datas (l ++ [x]) = datas l ++ x.2 := by simp [datas]
theorem verbsN_snoc {l : List Tl} {x : Tl} : verbsN (l ++ [x]) = verbsN l + (if x.1.1 = 2 then 1 else 0) := by
  simp only [verbsN, List.filter_append, List.length_append]
  congr 1
  by_cases h : x.1.1 = 2
  · simp [h]
  · simp [h]
theorem feed1_len {s : Rd} {c : UInt8} (hp : s.pd.length ≤ 3000) : (feedR s [c]).out.length ≤ 1 ∧ (datas (feedR s [c]).out).length ≤ 4000 := by
  have h := RI.feedL (l := [c]) (n := 0) (s := clr s) ⟨by simp [clr], by simp [clr], hp⟩
  unfold feedR
  split
  · have h1 := h.out
    have h2 := h.bod
    simp only [List.length_singleton, Nat.zero_add] at h1 h2
    refine ⟨h1, ?_⟩
    match ho : (feedL (clr s) [c]).out, h1 with
    | [], _ => simp [datas]
    | [x], _ =>
      have := h2 x (by rw [ho]; simp)
      simp [datas]; omega
  · simp [clr, datas]
end L22
