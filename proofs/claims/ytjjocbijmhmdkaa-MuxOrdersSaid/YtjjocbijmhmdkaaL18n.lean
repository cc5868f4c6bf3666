import Derived.Test.YtjjocbijmhmdkaaL18m
open Go Ab Go.Proofs
namespace L18
set_option autoImplicit false
set_option linter.unusedSimpArgs false
set_option linter.unusedVariables false
attribute [local irreducible] mcells

/-! ### The example -/
abbrev z0 : Hf := ⟨[], 1024, false, false⟩
abbrev y0 : Ot := ⟨[], 1024, 0, false⟩
theorem zo4 : zo 4 = [z0, z0, z0, z0] := rfl
theorem zi4 : zi 4 = [y0, y0, y0, y0] := rfl
theorem out1_idle {o : List Hf} {i : List Ot} {c : Nat} (h1 : (hg o c).wait = []) (h2 : (hg o c).closed = false) (h3 : (og i c).untold = 0) (h4 : c < o.length) : mout1 o i c = ([], o, i) := by
  have e1 : mcut c (hg o c).wait (hg o c).credit = ([], (hg o c).wait, (hg o c).credit) := mcut_stop (by rw [h1]; simp)
  have e2 : mend (hg o c) (hg o c).wait = false := by simp [mend, h2]
  have e3 : o.set c ⟨(hg o c).wait, (hg o c).credit, (hg o c).closed, (hg o c).told⟩ = o := hset_self h4
  simp only [mout1, e1, e2, h3]
  simp [e3]
section
variable {w : List UInt8}
theorem sp1 (h : w.length = 1500) : mwrite (zo 4) 0 w = (0, [⟨w, 1024, false, false⟩, z0, z0, z0]) := by
  rw [zo4]; simp [mwrite, mopen, hg, h]
theorem sp2 (h : w.length = 1500) : mout [⟨w, 1024, false, false⟩, z0, z0, z0] (zi 4) = ([(0, w.take 512), (0, (w.drop 512).take 512)], [⟨(w.drop 512).drop 512, 0, false, false⟩, z0, z0, z0], zi 4) := by
  have c1 : mcut 0 w 1024 = ([(0, w.take 512), (0, (w.drop 512).take 512)], (w.drop 512).drop 512, 0) := by
    rw [mcut_step (n := 512) ⟨by omega, by omega⟩ (by omega), mcut_step (n := 512) ⟨by simp; omega, by omega⟩ (by simp; omega), mcut_stop (by omega)]
    rfl
  have e1 : mout1 [⟨w, 1024, false, false⟩, z0, z0, z0] (zi 4) 0 = ([(0, w.take 512), (0, (w.drop 512).take 512)], [⟨(w.drop 512).drop 512, 0, false, false⟩, z0, z0, z0], zi 4) := by
    simp only [mout1, show hg [⟨w, 1024, false, false⟩, z0, z0, z0] 0 = ⟨w, 1024, false, false⟩ from rfl, c1]
    rfl
  simp only [mout, moutN, e1]
  rw [out1_idle (c := 1) rfl rfl rfl (by simp)]
  rw [out1_idle (c := 2) rfl rfl rfl (by simp)]
  rw [out1_idle (c := 3) rfl rfl rfl (by simp)]
  rfl
theorem sp3 {b : List UInt8} (h : b.length = 512) : mtake (zo 4) (zi 4) (0, b) = (0, zo 4, [⟨b, 512, 0, false⟩, y0, y0, y0]) := by
  rw [zi4]; simp [mtake, og, h]
theorem sp4 {a b : List UInt8} (ha : a.length = 512) (h : b.length = 512) : mtake (zo 4) [⟨a, 512, 0, false⟩, y0, y0, y0] (0, b) = (0, zo 4, [⟨a ++ b, 0, 0, false⟩, y0, y0, y0]) := by
  simp [mtake, og, h]
theorem sp5 {a : List UInt8} (ha : a.length = 1024) : (mread [⟨a, 0, 0, false⟩, y0, y0, y0] 0 2000).2 = [⟨[], 0, 1024, false⟩, y0, y0, y0] := by
  simp [mread, og, ha]
theorem sp6 : mout (zo 4) [⟨[], 0, 1024, false⟩, y0, y0, y0] = ([toldF 1 0 1024], zo 4, [⟨[], 1024, 0, false⟩, y0, y0, y0]) := by
  have e1 : mout1 (zo 4) [⟨[], 0, 1024, false⟩, y0, y0, y0] 0 = ([toldF 1 0 1024], zo 4, [⟨[], 1024, 0, false⟩, y0, y0, y0]) := by
    have c1 : mcut 0 [] 1024 = ([], [], 1024) := mcut_stop (by simp)
    simp only [mout1, show hg (zo 4) 0 = z0 from rfl, c1]
    rfl
  simp only [mout, moutN, e1]
  rw [out1_idle (c := 1) rfl rfl rfl (by decide)]
  rw [out1_idle (c := 2) rfl rfl rfl (by decide)]
  rw [out1_idle (c := 3) rfl rfl rfl (by decide)]
  rfl
theorem sp7 : mtake [⟨w, 0, false, false⟩, z0, z0, z0] (zi 4) (toldF 1 0 1024) = (0, [⟨w, 1024, false, false⟩, z0, z0, z0], zi 4) := by
  have e : (toldF 1 0 1024) = (4, [1, 0, 4, 0]) := rfl
  rw [e]
  simp [mtake, mctrl, hg]
theorem sp8 (h : w.length = 476) : mout [⟨w, 1024, false, false⟩, z0, z0, z0] (zi 4) = ([(0, w.take 476)], [⟨w.drop 476, 548, false, false⟩, z0, z0, z0], zi 4) := by
  have c1 : mcut 0 w 1024 = ([(0, w.take 476)], w.drop 476, 548) := by
    rw [mcut_step (n := 476) ⟨by omega, by omega⟩ (by omega), mcut_stop (by simp; omega)]
    rfl
  have e1 : mout1 [⟨w, 1024, false, false⟩, z0, z0, z0] (zi 4) 0 = ([(0, w.take 476)], [⟨w.drop 476, 548, false, false⟩, z0, z0, z0], zi 4) := by
    simp only [mout1, show hg [⟨w, 1024, false, false⟩, z0, z0, z0] 0 = ⟨w, 1024, false, false⟩ from rfl, c1]
    rfl
  simp only [mout, moutN, e1]
  rw [out1_idle (c := 1) rfl rfl rfl (by simp)]
  rw [out1_idle (c := 2) rfl rfl rfl (by simp)]
  rw [out1_idle (c := 3) rfl rfl rfl (by simp)]
  rfl
end
end L18
