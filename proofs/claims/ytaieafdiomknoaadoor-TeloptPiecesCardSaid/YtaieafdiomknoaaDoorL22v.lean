import Derived.Test.YtaieafdiomknoaaDoorL22u
import Derived.Test.YtaieafdiomknoaaDoorAbLibE
open Go Ab Go.Proofs
namespace L22
set_option autoImplicit false
set_option linter.unusedSimpArgs false
set_option linter.unusedVariables false

abbrev prow (x : Tl × Nat) (w : Option Addr × Nat) : List Value := [.int .i64 x.1.1.1, .int .i64 x.1.1.2.1, .int .i64 x.1.1.2.2, .slice w.1 x.1.2.length w.2, .int .i64 x.2]
abbrev psub (x : Tl × Nat) (w : Option Addr × Nat) : Chunk := ob 5 (.slice w.1 x.1.2.length w.2) x.1.2
abbrev parts (v : Value) (xs : List (Tl × Nat)) : Chunk := grecs prow psub 62 5 v xs

theorem parts_app {O : Old} {h : AHeap} {R : List Chunk} {a ba : Option Addr} {cap bc m : Nat} {xs : List (Tl × Nat)} {k v o : Int} {bs : List UInt8} (kk : Own O h (parts (.slice a xs.length cap) xs :: ob 5 (.slice ba bs.length bc) bs :: R)) (hm : xs.length ≤ 1000000) :
    ∃ a2 cap2 h', appendW Tryd.prog (h.push (.row [.int .i64 k, .int .i64 v, .int .i64 o, .slice ba bs.length bc, .int .i64 m] 62 5 true false)) 39 39 (.slice a xs.length cap) (.slice (some ⟨h.next, 0, none⟩) 1 1) = some (.slice a2 (xs.length + 1) cap2, h') ∧
      Own O h' (parts (.slice a2 (xs ++ [(((k, v, o), bs), m)]).length cap2) (xs ++ [(((k, v, o), bs), m)]) :: R) := by
  obtain ⟨a2, cap2, h', e, k2⟩ := Own.grecs_app (row := prow) (sub := psub) (P := Tryd.prog) (t := 39) (xt := 39) (x := (((k, v, o), bs), m)) (w := (ba, bc)) Tryd.underlying39 tsz62 tby62 tz62 nI39 (by omega) (by omega) rfl rfl rfl kk rfl (by omega)
  exact ⟨a2, cap2, h', e, by simpa using k2⟩

theorem evp_step {s : Rd} (h : s.br = 0) (p : Nat) (c : UInt8) (l : List UInt8) : evp s p (c :: l) = (takeR (clr s) c).out.map (fun x => (x, p + 1)) ++ evp (takeR (clr s) c) (p + 1) l := if_pos h
theorem fin_step {s : Rd} (h : s.br = 0) (c : UInt8) (l : List UInt8) : fin s (c :: l) = fin (takeR (clr s) c) l := if_pos h
theorem r_data {l : List UInt8} {c : UInt8} {j : Nat} (hc : ¬ c = 255) : evp rd0 j (c :: l) = (((1, 0, 0), [c]), j + 1) :: evp rd0 (j + 1) l ∧ fin rd0 (c :: l) = fin rd0 l := by
  have e : takeR rd0 c = ⟨0, 0, 0, 0, [], [((1, 0, 0), [c])], 0⟩ := by simp [takeR, rd0, hc, dataR, addData]
  rw [evp_step rfl, fin_step rfl, show clr rd0 = rd0 from rfl, e, ← evp_clr, ← fin_clr]
  exact ⟨rfl, rfl⟩
theorem r_1 (l : List UInt8) (j : Nat) : evp rd0 j (255 :: l) = evp ⟨1, 0, 0, 0, [], [], 0⟩ (j + 1) l ∧ fin rd0 (255 :: l) = fin ⟨1, 0, 0, 0, [], [], 0⟩ l := ⟨rfl, rfl⟩
theorem r_end1 {j : Nat} : evp rd0 j [255] = [] ∧ (fin rd0 [255]).br = 0 := ⟨rfl, rfl⟩
theorem r_form {l : List UInt8} {x : UInt8} {j : Nat} (hx : x.toNat ≤ 240) : evp rd0 j (255 :: x :: l) = [] ∧ (fin rd0 (255 :: x :: l)).br = 21 := by
  have h1 : ¬ x = 255 := by rintro rfl; simp at hx
  have h2 : ¬ 251 ≤ x := by rw [UInt8.le_iff_toNat_le]; show ¬ 251 ≤ _; omega
  have h3 : ¬ x = 250 := by rintro rfl; simp at hx
  have h4 : x ≤ 240 := by rw [UInt8.le_iff_toNat_le]; exact hx
  have e : takeR ⟨1, 0, 0, 0, [], [], 0⟩ x = ⟨0, 0, 0, 0, [], [], 21⟩ := by simp [takeR, commandR, h1, h2, h3, h4]
  rw [(r_1 _ _).1, (r_1 _ j).2, evp_step rfl, fin_step rfl, show clr ⟨1, 0, 0, 0, [], [], 0⟩ = ⟨1, 0, 0, 0, [], [], 0⟩ from rfl, e, evp_stop (by simp), fin_stop (by simp)]
  exact ⟨rfl, rfl⟩
theorem r_255 {l : List UInt8} {j : Nat} : evp rd0 j (255 :: 255 :: l) = (((1, 0, 0), [255]), j + 2) :: evp rd0 (j + 2) l ∧ fin rd0 (255 :: 255 :: l) = fin rd0 l := by
  have e : takeR ⟨1, 0, 0, 0, [], [], 0⟩ 255 = ⟨0, 0, 0, 0, [], [((1, 0, 0), [255])], 0⟩ := rfl
  rw [(r_1 _ _).1, (r_1 _ j).2, evp_step rfl, fin_step rfl, show clr ⟨1, 0, 0, 0, [], [], 0⟩ = ⟨1, 0, 0, 0, [], [], 0⟩ from rfl, e, ← evp_clr, ← fin_clr]
  exact ⟨rfl, rfl⟩
theorem r_skip {l : List UInt8} {x : UInt8} {j : Nat} (h240 : 240 < x.toNat) (h250 : x.toNat < 250) : evp rd0 j (255 :: x :: l) = evp rd0 (j + 2) l ∧ fin rd0 (255 :: x :: l) = fin rd0 l := by
  have h1 : ¬ x = 255 := by rintro rfl; simp at h250
  have h2 : ¬ 251 ≤ x := by rw [UInt8.le_iff_toNat_le]; show ¬ 251 ≤ _; omega
  have h3 : ¬ x = 250 := by rintro rfl; simp at h250
  have h4 : ¬ x ≤ 240 := by rw [UInt8.le_iff_toNat_le]; show ¬ _ ≤ 240; omega
  have e : takeR ⟨1, 0, 0, 0, [], [], 0⟩ x = rd0 := by simp only [takeR, commandR, rd0, h1, h2, h3, h4]; simp
  rw [(r_1 _ _).1, (r_1 _ j).2, evp_step rfl, fin_step rfl, show clr ⟨1, 0, 0, 0, [], [], 0⟩ = ⟨1, 0, 0, 0, [], [], 0⟩ from rfl, e]
  exact ⟨rfl, rfl⟩
theorem r_2 {x : UInt8} (h250 : 250 < x.toNat) (h1 : ¬ x = 255) (l : List UInt8) (j : Nat) : evp rd0 j (255 :: x :: l) = evp ⟨2, 2, x.toNat, 0, [], [], 0⟩ (j + 2) l ∧ fin rd0 (255 :: x :: l) = fin ⟨2, 2, x.toNat, 0, [], [], 0⟩ l := by
  have h2 : 251 ≤ x := by rw [UInt8.le_iff_toNat_le]; exact h250
  have e : takeR ⟨1, 0, 0, 0, [], [], 0⟩ x = ⟨2, 2, x.toNat, 0, [], [], 0⟩ := by simp only [takeR, commandR, rd0, h1, h2]; simp
  rw [(r_1 _ _).1, (r_1 _ j).2, evp_step rfl, fin_step rfl, show clr ⟨1, 0, 0, 0, [], [], 0⟩ = ⟨1, 0, 0, 0, [], [], 0⟩ from rfl, e]
  exact ⟨rfl, rfl⟩
theorem r_verb {x y : UInt8} (h250 : 250 < x.toNat) (h1 : ¬ x = 255) {l : List UInt8} {j : Nat} : evp rd0 j (255 :: x :: y :: l) = (((2, (x.toNat : Int), (y.toNat : Int)), []), j + 3) :: evp rd0 (j + 3) l ∧ fin rd0 (255 :: x :: y :: l) = fin rd0 l := by
  have e : takeR ⟨2, 2, x.toNat, 0, [], [], 0⟩ y = ⟨0, 0, 0, 0, [], [((2, x.toNat, y.toNat), [])], 0⟩ := rfl
  rw [(r_2 h250 h1 _ _).1, (r_2 h250 h1 _ j).2, evp_step rfl, fin_step rfl, show clr ⟨2, 2, x.toNat, 0, [], [], 0⟩ = ⟨2, 2, x.toNat, 0, [], [], 0⟩ from rfl, e, ← evp_clr, ← fin_clr]
  exact ⟨rfl, rfl⟩
theorem r_sub1 {j : Nat} : evp rd0 j [255, 250] = [] ∧ (fin rd0 [255, 250]).br = 0 := ⟨rfl, rfl⟩
theorem r_sub {y : UInt8} {l : List UInt8} {j : Nat} : evp rd0 j (255 :: 250 :: y :: l) = evp (s4 y.toNat []) (j + 3) l ∧ fin rd0 (255 :: 250 :: y :: l) = fin (s4 y.toNat []) l := ⟨rfl, rfl⟩
end L22
