import Derived.Test.YtfdkdkhmblhehaaL01f
import Derived.Test.YtfdkdkhmblhehaaL01e
import Derived.Test.YtfdkdkhmblhehaaL01g
open Go Ab Go.Proofs
namespace T1
set_option autoImplicit false
set_option linter.unusedSimpArgs false
set_option linter.unusedVariables false
attribute [local go_sem] tsz5 tby5 tz5 nI24 Try.underlying24 Try.underlying5 agg5 agg3 Try.underlying3 Try.underlying4 Try.underlying23 Try.underlying32 Try.underlying9 Try.underlying46 Try.underlying29 Try.underlying45 tsz46 tby46 tz46 tsz3 tsz24 agg46 agg24 nI29

theorem cuts_calls (h : AHeap) (t k : Int) (v : Value) (val : List UInt8) (hv : Bytes h v val) (ht1 : -9223372036854775808 ≤ t) (ht2 : t ≤ 9223372036854775807) :
    ACalls Try.prog 8 #[.int .i64 t, v, .int .i64 k] h fun r h' => r = .bool true := by
  refine ACalls.wf fun hb0 hn0 => ?_
  refine ACalls.of_awp (args := [.int .i64 t, v, .int .i64 k]) (n := 64) Try.func8 rfl rfl (by show 3 ≤ 64; omega) ?_
  refine AWP.sr [0, 1, 2] (by simp [go_sem]; exact ⟨rfl, rfl⟩) ?_
  refine AWP.seq ?_
  refine AWP.sc [0, 1, 2, 13] ?_
  refine awpL_call 0 (by simp [go_sem]; exact ⟨rfl, rfl⟩) rfl rfl (by simp [go_sem]) (by simp [go_sem]; exact ⟨rfl, rfl⟩) (by kernel_rfl) ?_   -- gangway/gangwaylaw01.speaks
  refine (speaks_calls _).mono ?_
  rintro _ h1 ⟨rfl, x1⟩
  refine awpL_rest (by simp [go_sem, unA]; exact ⟨rfl, rfl⟩) ?_
  refine AWP.onlyE [0, 1, 2, 13] (by simp [go_sem]; rfl) ?_
  refine AWP.cond (by simp [go_sem]; rfl) (fun hc => by cases hc) (fun hc => ?_)
  refine AWP.skip ?_
  simp only [thn, inBlk]
  refine AWP.seq ?_
  have hv1 := hv.ext x1
  have hlen := hv1.len (P := Try.prog) Try.underlying24
  generalize hbb : decide (t < 1 ∨ 255 < t ∨ 60000 < val.length) = bb
  refine AWP.sr [0, 1, 2, 24] (s2 := ⟨64, [(0, .int .i64 t), (1, v), (2, .int .i64 k), (24, .bool bb)]⟩) (h2 := h1) ?_ ?_
  · by_cases c1 : t < 1
    · have : bb = true := by rw [← hbb]; simp [c1]
      subst this
      simp [go_sem, hlen, c1]
    · by_cases c2 : 255 < t
      · have : bb = true := by rw [← hbb]; simp [c2]
        subst this
        simp [go_sem, hlen, c1, c2]
      · have : bb = decide (60000 < val.length) := by rw [← hbb]; simp [c1, c2]
        subst this
        simp [go_sem, hlen, c1, c2]
        omega
  refine AWP.cond (by simp [go_sem]; rfl) (fun hc => ?_) (fun hc => ?_)
  · refine AWP.sr [6] (by simp [go_sem]; exact ⟨rfl, rfl⟩) ?_
    refine AWP.ret ?_
    simp [bodyQ, thn, inBlk, resA, go_sem, resV]
  rw [← hbb] at hc
  simp only [decide_eq_false_iff_not] at hc
  have t1 : 1 ≤ t := by omega
  have t2 : t ≤ 255 := by omega
  have t3 : val.length ≤ 60000 := by omega
  clear hbb hc
  refine AWP.skip ?_
  simp only [thn, inBlk]
  obtain ⟨a, cap, e0⟩ := hv.val
  have hF : Fields (h1.push (.row [.int .i64 t, v] 46 2 true false)) (.slice (some ⟨h1.next, 0, none⟩) 1 1) [(t, val)] := by
    refine ⟨[.int .i64 t, v], .inr ⟨_, 0, 1, _, 46, 2, true, false, rfl, by simp, by simp [push_next], push_self _ _, .inl rfl, by simp, rfl⟩, fun j hj => ?_⟩
    obtain rfl : j = 0 := by simpa using hj
    exact ⟨_, rfl, rfl, hv1.ext ((Ext.refl h1).push _)⟩
  refine AWP.sc [1, 2, 7, 8] ?_
  subst e0
  refine awpL_call 4 (by simp [go_sem, buildSliceA, buildP, zeros, Instr.fill]; exact ⟨rfl, rfl⟩) rfl rfl (by simp [go_sem]) (by simp [go_sem]; exact ⟨rfl, rfl⟩) (by kernel_rfl) ?_   -- gangway/tlv.Join
  refine (join_calls _ _ [(t, val)] hF (by simp [tot]; omega)).mono ?_
  rintro _ h2 ⟨bv, rfl, hbv, x2⟩
  rw [join_one t1 t2 (by omega)] at hbv ⊢
  simp only at hbv ⊢
  have hbl : (encF (t, val)).length = val.length + 3 := by simp [encF]
  have hlen2 := hbv.bytes.len (P := Try.prog) Try.underlying24
  rw [hbl] at hlen2
  have hlen1 := ((hv1.ext ((Ext.refl h1).push _)).ext x2).len (P := Try.prog) Try.underlying24
  refine awpL_rest (by simp [go_sem]; exact ⟨rfl, rfl⟩) ?_
  refine AWP.onlyE [1, 2, 7, 8] (by simp [go_sem]; rfl) ?_
  refine AWP.seq ?_
  have w1 : IntKind.i64.wrap ((val.length : Int) + 3) = val.length + 3 := wI64 (by omega) (by omega)
  refine AWP.sr [2, 7, 42] (by simp [go_sem, hlen1, hlen2, w1]; exact ⟨rfl, rfl⟩) ?_
  refine AWP.cond (by simp [go_sem]; rfl) (fun hc => by cases hc) (fun hc => ?_)
  refine AWP.skip ?_
  simp only [thn, inBlk]
  -- how many
  obtain ⟨m, hm, hm2⟩ : ∃ m : Nat, IntKind.i64.wrap ((BitVec.ofInt 64 k &&& 65535#64).toNat : Int) = m ∧ m ≤ 65535 := by
    have hle : (BitVec.ofInt 64 k &&& 65535#64).toNat ≤ 65535 := by
      rw [BitVec.toNat_and]; exact Nat.and_le_right
    exact ⟨_, wI64 (by omega) (by omega), hle⟩
  have w2 : IntKind.i64.wrap ((val.length : Int) + 3 - 1) = (val.length : Int) + 2 := by rw [wI64 (by omega) (by omega)]; omega
  have nz : ¬ ((val.length : Int) + 2 = 0) := by omega
  have w3 : (m : Int).tmod ((val.length : Int) + 2) = (m : Int) % ((val.length : Int) + 2) := Int.tmod_eq_emod_of_nonneg (by omega)
  have hlt : m % (val.length + 2) < val.length + 2 := Nat.mod_lt _ (by omega)
  have e5 : (m : Int) % ((val.length : Int) + 2) = ((m % (val.length + 2) : Nat) : Int) := rfl
  have w4 : IntKind.i64.wrap (1 + (m : Int) % ((val.length : Int) + 2)) = ((1 + m % (val.length + 2) : Nat) : Int) := by rw [e5, wI64 (by omega) (by omega)]; omega
  generalize hn : 1 + m % (val.length + 2) = n at w4
  refine AWP.sr [7, 9] (s2 := ⟨64, [(7, bv), (9, .int .i64 n)]⟩) (h2 := h2) ?_ ?_
  · simp [go_sem, hlen2, w2, nz]
    refine (congrArg (fun z : Int => IntKind.i64.wrap (1 + Int.tmod z ((val.length : Int) + 2))) hm).trans ?_
    simp only [w3, w4]
  obtain ⟨d, sl, hd, _⟩ := hbv.bytes.slice (P := Try.prog) (t := 24) (e := 5) Try.underlying24 tsz5 (lo := 0) (hi := n) (by omega) (by omega) (l := none) (u := some (.int .i64 n)) (.inl ⟨rfl, rfl⟩) (.inr ⟨.i64, rfl⟩)
  rw [List.drop_zero] at hd
  refine AWP.sc [10, 11] ?_
  refine awpL_call 3 (by simp [go_sem, sl]; exact ⟨rfl, rfl⟩) rfl rfl (by simp [go_sem]) (by simp [go_sem]; exact ⟨rfl, rfl⟩) (by kernel_rfl) ?_   -- gangway/tlv.Split
  refine (split_calls _ _ _ hd (by simp; omega)).mono ?_
  rintro _ h3 ⟨fv, rfl, hfv, x3⟩
  rw [split_cut t1 t2 (by omega) (by omega) (by omega)] at hfv ⊢
  obtain ⟨cs, hg, _⟩ := hfv
  have hlen3 := hg.sl.len (P := Try.prog) Try.underlying29
  refine awpL_rest (by simp [go_sem]; exact ⟨rfl, rfl⟩) ?_
  refine AWP.onlyE [10, 11] (by simp [go_sem]; rfl) ?_
  refine AWP.sr [6] (by simp [go_sem, hlen3]; exact ⟨rfl, rfl⟩) ?_
  refine AWP.ret ?_
  simp [bodyQ, thn, inBlk, resA, go_sem, resV]
end T1
