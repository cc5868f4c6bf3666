import Derived.Test.YtfdkdkhmblhehaaL01d
open Go Ab Go.Proofs
namespace T1
set_option autoImplicit false
set_option linter.unusedSimpArgs false
set_option linter.unusedVariables false
attribute [local go_sem] tsz5 tby5 tz5 nI24 Try.underlying24 Try.underlying5 agg5 agg3 Try.underlying3 Try.underlying4 Try.underlying23 Try.underlying32 Try.underlying9 Try.underlying46 Try.underlying29 Try.underlying45 tsz46 tby46 tz46 tsz3 tsz24 agg46 agg24 nI29

theorem keyF (a b : F) : (a == b) = (a.1 == b.1 && a.2 == b.2) := rfl

/-- What Same tells. -/
theorem same_calls (h : AHeap) (v w : Value) (xs ys : List F) (hv : Fields h v xs) (hw : Fields h w ys) (hxl : xs.length ≤ 1000000) :
    ACalls Try.prog 19 #[v, w] h fun r h' => r = .bool (xs == ys) ∧ h' = h := by
  refine ACalls.wf fun hb0 hn0 => ?_
  obtain ⟨cs, sl1, hcs⟩ := hv
  obtain ⟨ds, sl2, hds⟩ := hw
  have len1 := sl1.len (P := Try.prog) Try.underlying29
  have len2 := sl2.len (P := Try.prog) Try.underlying29
  refine ACalls.of_awp (args := [v, w]) (n := 43) Try.func19 rfl rfl (by show 2 ≤ 43; omega) ?_
  refine AWP.sr [0, 1] (by simp [go_sem]; exact ⟨rfl, rfl⟩) ?_
  refine AWP.seq ?_
  by_cases hl : xs.length = ys.length
  rotate_left
  · refine AWP.sr [0, 1, 10] (by simp [go_sem, len1, len2, hl]; exact ⟨rfl, rfl⟩) ?_
    refine AWP.cond (by simp [go_sem]; rfl) (fun hc => ?_) (fun hc => by simp at hc; omega)
    refine AWP.sr [4] (by simp [go_sem]; exact ⟨rfl, rfl⟩) ?_
    refine AWP.ret ?_
    simp [bodyQ, thn, inBlk, resA, go_sem, resV]
    rintro rfl; exact hl rfl
  refine AWP.sr [0, 1, 10] (by simp [go_sem, len1, len2, hl]; exact ⟨rfl, rfl⟩) ?_
  refine AWP.cond (by simp [go_sem]; rfl) (fun hc => by simp at hc) (fun hc => ?_)
  refine AWP.skip ?_
  simp only [thn, inBlk]
  refine AWP.seq ?_
  refine AWP.sr [0, 1, 5] (by simp [go_sem]; exact ⟨rfl, rfl⟩) ?_
  refine AWP.block ?_
  refine AWP.loopR [0, 1, 5] (fun n s h' => ∃ (i : Nat), i ≤ xs.length ∧ n = xs.length - i ∧ s = ⟨43, [(0, v), (1, w), (5, .int .i64 i)]⟩ ∧ h' = h ∧ ∀ j (hj : j < i) (h1 : j < xs.length) (h2 : j < ys.length), xs[j] = ys[j]) ?_ ?_
  · exact ⟨_, 0, by omega, rfl, by simp [go_sem], rfl, fun j hj => by omega⟩
  · rintro n s h' ⟨i, hi, rfl, rfl, rfl, heq⟩
    refine AWP.seq ?_
    refine AWP.sr [0, 1, 5, 14] (by simp [go_sem, len1]; exact ⟨rfl, rfl⟩) ?_
    refine AWP.cond (by simp [go_sem]; rfl) (fun hc => ?_) (fun hc => ?_)
    rotate_left
    · refine AWP.exit ?_   -- block 0
      simp only [thn, inBlk, if_true]
      have hi2 : i = xs.length := by simp at hc; omega
      have e : xs = ys := List.ext_getElem hl fun j h1 h2 => heq j (by omega) h1 h2
      refine AWP.sr [4] (by simp [go_sem]; exact ⟨rfl, rfl⟩) ?_
      refine AWP.ret ?_
      simp [bodyQ, thn, inBlk, resA, go_sem, resV]
      exact e
    have hi2 : i < xs.length := by simpa using hc
    have hi3 : i < ys.length := by omega
    refine AWP.skip ?_
    simp only [thn, inBlk]
    refine AWP.seq ?_
    refine AWP.block ?_
    obtain ⟨fx, a1, a2, a3⟩ := hcs i hi2
    obtain ⟨fy, b1, b2, b3⟩ := hds i hi3
    obtain ⟨ix, ox, cx, ex, szx, tix, rox, ax, _, _, ox1, cx1⟩ := sl1.cell (P := Try.prog) (t := 29) (e := 46) Try.underlying29 tsz46 hi2 (f := 0) (by omega) (kd := .i64) (by simpa using a1)
    obtain ⟨ix', ox', cx', ex', szx', tix', rox', ax', _, _, ox1', cx1'⟩ := sl1.cell (P := Try.prog) (t := 29) (e := 46) Try.underlying29 tsz46 hi2 (f := 1) (by omega) (kd := .i64) a2
    obtain ⟨iy, oy, cy, ey, szy, tiy, roy, ay, _, _, oy1, cy1⟩ := sl2.cell (P := Try.prog) (t := 29) (e := 46) Try.underlying29 tsz46 hi3 (f := 0) (by omega) (kd := .i64) (by simpa using b1)
    obtain ⟨iy', oy', cy', ey', szy', tiy', roy', ay', _, _, oy1', cy1'⟩ := sl2.cell (P := Try.prog) (t := 29) (e := 46) Try.underlying29 tsz46 hi3 (f := 1) (by omega) (kd := .i64) b2
    rw [ax] at ax'
    cases ax'
    rw [ox1] at ox1'
    cases ox1'
    rw [ay] at ay'
    cases ay'
    rw [oy1] at oy1'
    cases oy1'
    rw [Nat.add_zero] at cx1 cy1
    have sx := a3.conv (P := Try.prog) (t := 24) (e := 5) (u := 9) Try.underlying24 Try.underlying5 Try.underlying9
    have sy := b3.conv (P := Try.prog) (t := 24) (e := 5) (u := 9) Try.underlying24 Try.underlying5 Try.underlying9
    generalize hbb : (!(xs[i] == ys[i])) = bb
    refine AWP.sd hmix [.n 0 [0], .n 1 [5], .n 2 [17, 18], .n 3 [19], .n 4 [20], .n 5 [1], .n 6 [5], .n 7 [22, 23], .n 8 [24], .n 9 [25], .n 10 [21, 26], .n 11 [27], .n 12 [0, 28], .n 13 [5, 28], .n 14 [29, 30, 28], .n 15 [31, 28], .n 16 [32, 28], .n 17 [33, 28], .n 18 [1, 28], .n 19 [5, 28], .n 20 [35, 36, 28], .n 21 [37, 28], .n 22 [38, 28], .n 23 [39, 28], .n 24 [34, 40, 28], .n 25 [28, 41]] (by kernel_rfl) [0, 1, 5, 42] (s2 := ⟨43, [(0, v), (1, w), (5, .int .i64 i), (42, .bool bb)]⟩) (h2 := h') ?_ ?_
    · rw [← hbb]
      by_cases ht : xs[i].1 = ys[i].1
      · simp [go_sem, ax, ay, fieldAddrP, loadR, ox1, oy1, cx1, cy1, cx1', cy1', sx, sy, ht]
        rw [keyF]; simp [ht]
      · have hne : (xs[i].1 != ys[i].1) = true := by simpa using ht
        have hne2 : (xs[i].1 == ys[i].1) = false := by simpa using ht
        simp [go_sem, ax, ay, fieldAddrP, loadR, ox1, oy1, cx1, cy1, hne, hne2, keyF]
    by_cases he : xs[i] = ys[i]
    · refine AWP.cond (by simp [go_sem]; rfl) (fun hc => by rw [← hbb] at hc; simp [he] at hc) (fun hc => ?_)
      refine AWP.skip ?_
      simp only [thn, inBlk]
      refine AWP.r [0, 1, 5] (by simp (disch := omega) [go_sem, wI64]; exact ⟨rfl, rfl⟩) (fun s' hs' => ?_)
      refine ⟨_, ?_, i + 1, by omega, rfl, hs', rfl, fun j hj h1 h2 => ?_⟩
      · omega
      · by_cases hj2 : j = i
        · subst hj2; exact he
        · exact heq j (by omega) h1 h2
    · refine AWP.cond (by simp [go_sem]; rfl) (fun hc => ?_) (fun hc => by rw [← hbb] at hc; simp [he] at hc)
      refine AWP.sr [4] (by simp [go_sem]; exact ⟨rfl, rfl⟩) ?_
      refine AWP.ret ?_
      simp [bodyQ, thn, inBlk, resA, go_sem, resV]
      rintro rfl; exact he rfl
end T1
