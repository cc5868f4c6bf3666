import Derived.Test.YtfdkdkhmblhehaaL01b
open Go Ab Go.Proofs
namespace T1
set_option autoImplicit false
set_option linter.unusedSimpArgs false
set_option linter.unusedVariables false
attribute [local go_sem] tsz5 tby5 tz5 nI24 Try.underlying24 Try.underlying5 agg5 agg3 Try.underlying3 Try.underlying4 Try.underlying23 Try.underlying32 Try.underlying9 Try.underlying46 Try.underlying29 Try.underlying45 tsz46 tby46 tz46 tsz3 tsz24 agg46 agg24 nI29

/-! ### Plain laws of numbers -/
theorem leL_rev {n : Nat} (h : 0 < n) : (leL n).reverse = (leL (n / 256)).reverse ++ [UInt8.ofNat n] := by rw [leL_pos h]; simp
theorem valL_snoc (l : List UInt8) (u : UInt8) : valL (l ++ [u]) = 256 * valL l + u.toNat := by simp only [valL, List.foldl_append, List.foldl_cons, List.foldl_nil]
theorem valL_leL (n : Nat) : valL (leL n).reverse = n := by
  induction n using Nat.strongRecOn with
  | _ n ih =>
    by_cases h : n = 0
    · subst h; simp [leL_zero, valL]
    · rw [leL_rev (by omega), valL_snoc, ih (n / 256) (by omega)]
      simp; omega
theorem head_leL (n : Nat) : (leL n).reverse.head? ≠ some 0 := by
  induction n using Nat.strongRecOn with
  | _ n ih =>
    by_cases h : n = 0
    · subst h; simp [leL_zero]
    · rw [leL_rev (by omega)]
      by_cases h2 : n / 256 = 0
      · rw [h2, leL_zero]
        simp only [List.reverse_nil, List.nil_append, List.head?_cons, ne_eq, Option.some.injEq]
        intro e
        have := congrArg UInt8.toNat e
        simp at this; omega
      · have h3 := ih (n / 256) (by omega)
        rw [leL_rev (n := n / 256) (by omega)] at h3 ⊢
        rw [List.head?_append] at h3 ⊢
        rw [List.head?_append]
        revert h3
        cases (leL (n / 256 / 256)).reverse.head? <;> simp
theorem valL_pos {l : List UInt8} (h : l ≠ []) (h0 : l.head? ≠ some 0) : 0 < valL l := by
  have key : ∀ (l : List UInt8) (n : Nat), 0 < n → 0 < l.foldl (fun n u => 256 * n + u.toNat) n := by
    intro l
    induction l with
    | nil => intro n h; exact h
    | cons u l ih => intro n h; exact ih (256 * n + u.toNat) (by omega)
  cases l with
  | nil => exact absurd rfl h
  | cons u l =>
    refine key l _ ?_
    simp at h0
    have : u.toNat ≠ 0 := fun e => h0 (by rw [← UInt8.toNat_inj]; simpa using e)
    show 0 < 256 * 0 + u.toNat
    omega
theorem leL_valL : ∀ (k : Nat) (l : List UInt8), l.length = k → l.head? ≠ some 0 → (leL (valL l)).reverse = l := by
  intro k
  induction k with
  | zero => intro l hl _; obtain rfl := List.length_eq_zero_iff.1 hl; simp [valL, leL_zero]
  | succ k ih =>
    intro l hl h0
    have hne : l ≠ [] := by rintro rfl; simp at hl
    have hp := valL_pos hne h0
    obtain ⟨l', u, rfl⟩ : ∃ l' u, l = l' ++ [u] := ⟨_, _, (List.dropLast_concat_getLast hne).symm⟩
    rw [leL_rev hp, valL_snoc]
    have e1 : (256 * valL l' + u.toNat) / 256 = valL l' := by have := u.toNat_lt; omega
    have e2 : UInt8.ofNat (256 * valL l' + u.toNat) = u := by
      rw [← UInt8.toNat_inj]; have := u.toNat_lt; simp
    rw [e1, e2]
    by_cases hl' : l' = []
    · subst hl'; simp [valL, leL_zero]
    · rw [ih l' (by simpa using hl) (by cases l' <;> simp_all)]

theorem names_calls (h : AHeap) : ACalls Try.prog 3 #[] h fun r h' => r = .bool true := by
  refine ACalls.of_awp (args := []) (n := 21) Try.func3 rfl rfl (by show 0 ≤ 21; omega) ?_
  refine AWP.sr [] (by simp [go_sem]; exact ⟨rfl, rfl⟩) ?_
  refine AWP.seq ?_
  refine AWP.sc [7] ?_
  refine awpL_call 0 (by simp [go_sem]; exact ⟨rfl, rfl⟩) rfl rfl (by simp [go_sem]) (by simp [go_sem]; exact ⟨rfl, rfl⟩) (by kernel_rfl) ?_   -- gangway/gangwaylaw01.speaks
  refine (speaks_calls _).mono ?_
  rintro v h' ⟨rfl, hx⟩
  refine awpL_rest (by simp [go_sem, unA]; exact ⟨rfl, rfl⟩) ?_
  refine AWP.onlyE [7] (by simp [go_sem]; rfl) ?_
  refine AWP.cond (by simp [go_sem]; rfl) (fun hc => by cases hc) (fun hc => ?_)
  refine AWP.skip ?_
  simp only [thn, inBlk]
  refine AWP.sr [1] (by simp [go_sem]; exact ⟨rfl, rfl⟩) ?_
  refine AWP.sr [1, 2] (by simp [go_sem]; exact ⟨rfl, rfl⟩) ?_
  refine AWP.sr [1, 2, 3] (by simp [go_sem]; exact ⟨rfl, rfl⟩) ?_
  refine AWP.sr [1, 2, 3, 4] (by simp [go_sem]; exact ⟨rfl, rfl⟩) ?_
  refine AWP.sr [1, 2, 3, 4, 5] (by simp [go_sem]; exact ⟨rfl, rfl⟩) ?_
  refine AWP.sr [0] (by simp [go_sem]; exact ⟨rfl, rfl⟩) ?_
  refine AWP.ret ?_
  simp [bodyQ, thn, inBlk, resA, go_sem, resV]

theorem nums_calls (h : AHeap) (n : Nat) (hn : n < 18446744073709551616) (v : Value) (raw : List UInt8) (hv : Bytes h v raw) : ACalls Try.prog 4 #[.int .u64 n, v] h fun r h' => r = .bool true := by
  refine ACalls.wf fun hb0 hn0 => ?_
  refine ACalls.of_awp (args := [.int .u64 n, v]) (n := 72) Try.func4 rfl rfl (by show 2 ≤ 72; omega) ?_
  refine AWP.sr [0, 1] (by simp [go_sem]; exact ⟨rfl, rfl⟩) ?_
  refine AWP.seq ?_
  refine AWP.sc [0, 1, 13] ?_
  refine awpL_call 0 (by simp [go_sem]; exact ⟨rfl, rfl⟩) rfl rfl (by simp [go_sem]) (by simp [go_sem]; exact ⟨rfl, rfl⟩) (by kernel_rfl) ?_   -- gangway/gangwaylaw01.speaks
  refine (speaks_calls _).mono ?_
  rintro _ h1 ⟨rfl, x1⟩
  refine awpL_rest (by simp [go_sem, unA]; exact ⟨rfl, rfl⟩) ?_
  refine AWP.onlyE [0, 1, 13] (by simp [go_sem]; rfl) ?_
  refine AWP.cond (by simp [go_sem]; rfl) (fun hc => by cases hc) (fun hc => ?_)
  refine AWP.skip ?_
  simp only [thn, inBlk]
  refine AWP.seq ?_
  have hlen := (hv.ext x1).len (P := Try.prog) Try.underlying24
  refine AWP.sr [0, 1, 16] (by simp [go_sem, hlen]; exact ⟨rfl, rfl⟩) ?_
  refine AWP.cond (by simp [go_sem]; rfl) (fun hc => ?_) (fun hc => ?_)
  · refine AWP.sr [4] (by simp [go_sem]; exact ⟨rfl, rfl⟩) ?_
    refine AWP.ret ?_
    simp [bodyQ, thn, inBlk, resA, go_sem, resV]
  have hraw : raw.length ≤ 100000 := by simp at hc; omega
  refine AWP.skip ?_
  simp only [thn, inBlk]
  refine AWP.sc [0, 1, 5] ?_
  refine awpL_call 1 (by simp [go_sem]; exact ⟨rfl, rfl⟩) rfl rfl (by simp [go_sem]) (by simp [go_sem]; exact ⟨rfl, rfl⟩) (by kernel_rfl) ?_   -- gangway/tlv.Num
  refine (num_calls _ n hn).mono ?_
  rintro b h2 ⟨hb, x2⟩
  refine awpL_rest (by simp [go_sem]; exact ⟨rfl, rfl⟩) ?_
  refine AWP.onlyE [0, 1, 5] (by simp [go_sem]; rfl) ?_
  refine AWP.sc [0, 1, 5, 6, 7] ?_
  refine awpL_call 1 (by simp [go_sem]; exact ⟨rfl, rfl⟩) rfl rfl (by simp [go_sem]) (by simp [go_sem]; exact ⟨rfl, rfl⟩) (by kernel_rfl) ?_   -- gangway/tlv.Read
  refine (read_calls _ _ _ hb.bytes).mono ?_
  rintro _ h2 ⟨rfl, rfl⟩
  have hl8 : ¬ 8 < (leL n).reverse.length := by have := leL_length 8 n hn; simp; omega
  rw [readL_some hl8 (head_leL n), valL_leL]
  refine awpL_rest (by simp [go_sem]; exact ⟨rfl, rfl⟩) ?_
  refine AWP.onlyE [0, 1, 5, 6, 7] (by simp [go_sem]; rfl) ?_
  have g0 : GB 5 h2.next (h2.push (.row [] 5 1 true false)) (.slice (some ⟨h2.next, 0, none⟩) 0 0) [] := .inr ⟨h2.next, 0, [], true, rfl, Nat.le_refl _, Nat.lt_succ_self _, push_self _ _, by simp, by simp⟩
  have hv2 := (hv.ext x1).ext x2
  obtain ⟨w, h3, ea, hw, hfr, _, _⟩ := GB.app (P := Try.prog) (t := 24) (xt := 24) (xv := v) (xs := raw) Try.underlying24 tsz5 tby5 tz5 nI24 g0 (hv2.ext ((Ext.refl h2).push _)).src (by simp; omega) (by rw [push_base, x2.base, x1.base]; have := x1.next; have := x2.next; omega) (by rw [push_next]; omega)
  have x3 : Ext h2 h3 := ((((Ext.refl h2).push _).fr (Nat.le_refl _)).trans hfr).ext
  refine AWP.sc [0, 1, 5, 6, 7, 8, 9] ?_
  refine awpL_call 3 (by simp [go_sem, buildSliceA, zeros, Instr.fill, ea]; exact ⟨rfl, rfl⟩) rfl rfl (by simp [go_sem]) (by simp [go_sem]; exact ⟨rfl, rfl⟩) (by kernel_rfl) ?_   -- gangway/tlv.Read
  refine (read_calls _ _ _ hw.bytes).mono ?_
  rintro _ h3 ⟨rfl, rfl⟩
  rw [List.nil_append] at hw ⊢
  have hcase : (∃ x : Nat, readV raw = .tuple #[.int .u64 x, .bool true] ∧ x < 18446744073709551616 ∧ (leL x).reverse = raw) ∨ readV raw = .tuple #[.int .u64 0, .bool false] := by
    by_cases hr : 8 < raw.length ∨ raw.head? = some 0
    · exact .inr (readL_none hr)
    · have h8 : ¬ 8 < raw.length := fun e => hr (.inl e)
      have hh : raw.head? ≠ some 0 := fun e => hr (.inr e)
      refine .inl ⟨valL raw, readL_some h8 hh, ?_, leL_valL _ raw rfl hh⟩
      refine Nat.lt_of_lt_of_le (valL_lt raw) ?_
      exact Nat.le_trans (Nat.pow_le_pow_right (by omega) (show raw.length ≤ 8 by omega)) (by decide)
  have hv3 := hv2.ext x3
  have hb3 := hb.bytes.ext x3
  rcases hcase with ⟨x, hx, hxlt, hxr⟩ | hx
  all_goals rw [hx]
  all_goals refine awpL_rest (by simp [go_sem]; exact ⟨rfl, rfl⟩) ?_
  all_goals refine AWP.onlyE [0, 1, 5, 6, 7, 8, 9] (by simp [go_sem]; rfl) ?_
  all_goals refine AWP.sc [0, 1, 5, 6, 7, 8, 9, 10, 11] ?_
  all_goals refine awpL_call 1 (by simp [go_sem]; exact ⟨rfl, rfl⟩) rfl rfl (by simp [go_sem]) (by simp [go_sem]; exact ⟨rfl, rfl⟩) (by kernel_rfl) ?_
  all_goals refine (refRead_calls _ _ _ hv3).mono ?_
  all_goals rintro _ h3 ⟨rfl, rfl⟩
  all_goals rw [hx]
  all_goals refine awpL_rest (by simp [go_sem]; exact ⟨rfl, rfl⟩) ?_
  all_goals refine AWP.onlyE [0, 1, 5, 6, 7, 8, 9, 10, 11] (by simp [go_sem]; rfl) ?_
  all_goals refine AWP.sw hmix [.n 0 [5], .n 1 [36], .n 2 [0], .w 3 [38] [1], .n 4 [39], .n 5 [37, 40], .n 6 [41], .n 7 [7, 42], .n 8 [42, 43], .n 9 [44], .n 10 [6, 45], .n 11 [0, 45], .n 12 [46, 47, 45], .n 13 [45, 48], .n 14 [49], .n 15 [8, 50], .n 16 [10, 50], .n 17 [51, 52, 50], .n 18 [50, 53], .n 19 [54], .n 20 [9, 55], .n 21 [11, 55], .n 22 [56, 57, 55], .n 23 [55, 58], .n 24 [59], .n 25 [9, 60], .n 26 [61, 60], .n 27 [62, 60], .n 28 [8, 63], .n 31 [1, 63], .n 32 [67, 63], .w 29 [64, 63] [32], .n 30 [65, 63], .n 33 [66, 68, 63], .n 34 [63, 69, 60], .n 35 [60, 70], .n 36 [71]] (by kernel_rfl) ?_
  all_goals have hc1 := hb3.conv (P := Try.prog) (t := 24) (e := 5) (u := 9) Try.underlying24 Try.underlying5 Try.underlying9
  all_goals have hc2 := hv3.conv (P := Try.prog) (t := 24) (e := 5) (u := 9) Try.underlying24 Try.underlying5 Try.underlying9
  all_goals refine awpD_call 3 _ _ _ (by simp [go_sem, hc1]; exact ⟨rfl, rfl, rfl⟩) rfl rfl rfl (by simp [go_sem]) (by simp [go_sem]; exact ⟨rfl, rfl⟩) (by kernel_rfl) ?_   -- gangway/gangwayref01.Num
  all_goals refine (refNum_calls _ n hn).mono ?_
  all_goals rintro nb h4 ⟨hnb, x4⟩
  all_goals have hc3 := hnb.bytes.conv (P := Try.prog) (t := 24) (e := 5) (u := 9) Try.underlying24 Try.underlying5 Try.underlying9
  all_goals have hc1' := (hb3.ext x4).conv (P := Try.prog) (t := 24) (e := 5) (u := 9) Try.underlying24 Try.underlying5 Try.underlying9
  all_goals have hc2' := (hv3.ext x4).conv (P := Try.prog) (t := 24) (e := 5) (u := 9) Try.underlying24 Try.underlying5 Try.underlying9
  all_goals refine ⟨by simp [still, go_sem, hc1'], ?_⟩
  · refine awpD_call 27 _ _ _ (by simp [go_sem, hc3, hc2']; exact ⟨rfl, rfl, rfl⟩) rfl rfl rfl (by simp [go_sem]) (by simp [go_sem]; exact ⟨rfl, rfl⟩) (by kernel_rfl) ?_   -- gangway/tlv.Num
    refine (num_calls _ x hxlt).mono ?_
    rintro nb2 h5 ⟨hnb2, x5⟩
    rw [hxr] at hnb2
    have hc4 := hnb2.bytes.conv (P := Try.prog) (t := 24) (e := 5) (u := 9) Try.underlying24 Try.underlying5 Try.underlying9
    have hc2'' := ((hv3.ext x4).ext x5).conv (P := Try.prog) (t := 24) (e := 5) (u := 9) Try.underlying24 Try.underlying5 Try.underlying9
    refine ⟨by simp [still, go_sem, hc2''], ?_⟩
    refine awpD_rest (by simp [go_sem, hc4]; exact ⟨rfl, rfl, rfl⟩) ?_
    refine AWP.onlyE [4] (by simp [go_sem]; rfl) ?_
    refine AWP.ret ?_
    simp [bodyQ, thn, inBlk, resA, go_sem, resV]
  · refine awpD_skip 27 _ _ _ (by simp [go_sem, hc3]; exact ⟨rfl, rfl, rfl⟩) rfl rfl rfl (by simp [go_sem]) ?_
    refine awpD_rest (by simp [go_sem]; exact ⟨rfl, rfl, rfl⟩) ?_
    refine AWP.onlyE [4] (by simp [go_sem]; rfl) ?_
    refine AWP.ret ?_
    simp [bodyQ, thn, inBlk, resA, go_sem, resV]
end T1
