import Derived.Test.YtfdkdkhmblhehaaL01a
open Go Ab Go.Proofs
namespace T1
set_option autoImplicit false
set_option linter.unusedSimpArgs false
set_option linter.unusedVariables false
attribute [local go_sem] tsz5 tby5 tz5 nI24 Try.underlying24 Try.underlying5 agg5 agg3 Try.underlying3 Try.underlying4 Try.underlying23 Try.underlying32 Try.underlying9 Try.underlying46 Try.underlying29 Try.underlying45 tsz46 tby46 tz46 tsz3 tsz24 agg46 agg24 nI29

theorem speaks_calls (h : AHeap) : ACalls Try.prog 10 #[] h fun r h' => r = .bool true ∧ Ext h h' := by
  refine ACalls.wf fun hb0 hn0 => ?_
  refine ACalls.of_awp (args := []) (n := 23) Try.func10 rfl rfl (by show 0 ≤ 23; omega) ?_
  refine AWP.sr [] (by simp [go_sem]; exact ⟨rfl, rfl⟩) ?_
  refine AWP.sc [1, 2] ?_
  have hF : ∀ h1 : AHeap, Fields ((h1.push (.row [.int .u8 104, .int .u8 105] 5 1 true false)).push (.row [.int .i64 5, .slice (some ⟨h1.next, 0, none⟩) 2 2] 46 2 true false)) (.slice (some ⟨h1.next + 1, 0, none⟩) 1 1) [(5, [104, 105])] := fun h1 => by
    refine ⟨[.int .i64 5, .slice (some ⟨h1.next, 0, none⟩) 2 2], .inr ⟨_, 0, 1, _, 46, 2, true, false, rfl, by simp, by simp [push_next], push_self _ _, .inl rfl, by simp, rfl⟩, fun j hj => ?_⟩
    obtain rfl : j = 0 := by simpa using hj
    exact ⟨_, rfl, rfl, .inr ⟨h1.next, 0, 2, _, 5, 1, true, false, rfl, by simp, by simp [push_next]; omega, by rw [push_old _ _ _ (by simp [push_next])]; exact push_self _ _, .inl rfl, by simp, rfl⟩⟩
  refine awpL_call 4 (by simp [go_sem, buildSliceA, buildP, zeros, Instr.fill, convS, strR, hb0]; exact ⟨rfl, rfl⟩) rfl rfl (by simp [go_sem]) (by simp [go_sem]; exact ⟨rfl, rfl⟩) (by kernel_rfl) ?_   -- gangway/tlv.Join
  refine (join_calls _ _ [(5, [104, 105])] (hF h) (by decide)).mono ?_
  rintro v h' ⟨bv, rfl, hbv, hx⟩
  have ej : joinGo [] [(5, [104, 105])] = ([5, 0, 2, 104, 105], 0) := by decide
  rw [ej] at hbv ⊢
  simp only at hbv ⊢
  refine awpL_rest (by simp [go_sem]; exact ⟨rfl, rfl⟩) ?_
  refine AWP.onlyE [1, 2] (by simp [go_sem]; rfl) ?_
  refine AWP.sc [0] ?_
  have hs := hbv.bytes.conv (P := Try.prog) (t := 24) (e := 5) (u := 9) Try.underlying24 Try.underlying5 Try.underlying9
  refine awpL_call 8 (by simp [go_sem, hs]; exact ⟨rfl, rfl⟩) rfl rfl (by simp [go_sem]) (by simp [go_sem]; exact ⟨rfl, rfl⟩) (by kernel_rfl) ?_   -- gangway/tlv.Num
  refine (num_calls _ 256 (by decide)).mono ?_
  rintro v h2 ⟨hv, hx2⟩
  have en : (leL 256).reverse = [1, 0] := by rw [leL_pos (by decide), leL_pos (by decide), leL_zero]; decide
  rw [en] at hv
  have hs2 := hv.bytes.conv (P := Try.prog) (t := 24) (e := 5) (u := 9) Try.underlying24 Try.underlying5 Try.underlying9
  refine awpL_rest (by simp [go_sem, hs2]; exact ⟨rfl, rfl⟩) ?_
  refine AWP.ret ?_
  simp [bodyQ, thn, inBlk, resA, go_sem, resV]
  exact ((((Ext.refl h).push _).push _).trans hx).trans hx2
end T1
