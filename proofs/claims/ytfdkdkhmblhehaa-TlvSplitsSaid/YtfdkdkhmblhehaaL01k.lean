import Derived.Test.YtfdkdkhmblhehaaL01j
import Derived.Test.YtfdkdkhmblhehaaL01e
import Derived.Test.YtfdkdkhmblhehaaL01g
open Go Ab Go.Proofs
namespace T1
set_option autoImplicit false
set_option linter.unusedSimpArgs false
set_option linter.unusedVariables false
attribute [local go_sem] tsz5 tby5 tz5 nI24 Try.underlying24 Try.underlying5 agg5 agg3 Try.underlying3 Try.underlying4 Try.underlying23 Try.underlying32 Try.underlying9 Try.underlying46 Try.underlying29 Try.underlying45 tsz46 tby46 tz46 tsz3 tsz24 agg46 agg24 nI29

theorem len_le_tot {fs : List F} {j : Nat} (hj : j < fs.length) : fs[j].2.length ≤ tot fs := by
  induction fs generalizing j with
  | nil => simp at hj
  | cons f fs ih =>
    cases j with
    | zero => simp [tot]; omega
    | succ j => have := ih (j := j) (by simpa using hj); simp [tot]; omega

theorem FO.sp {lo : Nat} {h : AHeap} {v : Value} {fs : List F} (k : FO lo h v fs) (ht : tot fs ≤ 1000000) : Sp lo h.next h v fs.length := by
  obtain ⟨cs, h1, h2⟩ := k
  refine ⟨cs, h1, fun x hx => (h1.blk x hx).2, fun j hj => ?_⟩
  obtain ⟨fv, a, b, c⟩ := h2 j hj
  exact ⟨fv, _, b, c, Nat.le_trans (len_le_tot hj) ht, fun x hx => c.bytes.blk x hx⟩

theorem splits_calls (h : AHeap) (v : Value) (raw : List UInt8) (hv : Bytes h v raw) : ACalls Try.prog 6 #[v] h fun r h' => r = .bool true := by
  refine ACalls.wf fun hb0 hn0 => ?_
  refine ACalls.of_awp (args := [v]) (n := 69) Try.func6 rfl rfl (by show 1 ≤ 69; omega) ?_
  refine AWP.sr [0] (by simp [go_sem]; exact ⟨rfl, rfl⟩) ?_
  refine AWP.seq ?_
  refine AWP.sc [0, 11] ?_
  refine awpL_call 0 (by simp [go_sem]; exact ⟨rfl, rfl⟩) rfl rfl (by simp [go_sem]) (by simp [go_sem]; exact ⟨rfl, rfl⟩) (by kernel_rfl) ?_   -- gangway/gangwaylaw01.speaks
  refine (speaks_calls _).mono ?_
  rintro _ h1 ⟨rfl, x1⟩
  refine awpL_rest (by simp [go_sem, unA]; exact ⟨rfl, rfl⟩) ?_
  refine AWP.onlyE [0, 11] (by simp [go_sem]; rfl) ?_
  refine AWP.cond (by simp [go_sem]; rfl) (fun hc => by cases hc) (fun hc => ?_)
  refine AWP.skip ?_
  simp only [thn, inBlk]
  refine AWP.seq ?_
  have hv1 := hv.ext x1
  have hlen := hv1.len (P := Try.prog) Try.underlying24
  refine AWP.sr [0, 14] (by simp [go_sem, hlen]; exact ⟨rfl, rfl⟩) ?_
  refine AWP.cond (by simp [go_sem]; rfl) (fun hc => ?_) (fun hc => ?_)
  · refine AWP.sr [2] (by simp [go_sem]; exact ⟨rfl, rfl⟩) ?_
    refine AWP.ret ?_
    simp [bodyQ, thn, inBlk, resA, go_sem, resV]
  have hraw : raw.length ≤ 100000 := by simp at hc; omega
  refine AWP.skip ?_
  simp only [thn, inBlk]
  have b1 : h1.base ≤ h1.next := by have := x1.next; rw [x1.base]; omega
  have g0 : GB 5 h1.next (h1.push (.row [] 5 1 true false)) (.slice (some ⟨h1.next, 0, none⟩) 0 0) [] := .inr ⟨h1.next, 0, [], true, rfl, Nat.le_refl _, Nat.lt_succ_self _, push_self _ _, by simp, by simp⟩
  obtain ⟨w, h2, ea, hw, fr2, _, _⟩ := GB.app (P := Try.prog) (t := 24) (xt := 24) (xv := v) (xs := raw) Try.underlying24 tsz5 tby5 tz5 nI24 g0 (hv1.ext ((Ext.refl h1).push _)).src (by simp; omega) (by rw [push_base]; exact b1) (by rw [push_next]; omega)
  rw [List.nil_append] at hw
  have x2 : Ext h1 h2 := ((((Ext.refl h1).push _).fr (Nat.le_refl _)).trans fr2).ext
  refine AWP.sr [0, 3] (by simp [go_sem, buildSliceA, zeros, Instr.fill, Value.cells, ea]; exact ⟨rfl, rfl⟩) ?_
  refine AWP.sc [0, 3, 4, 5] ?_
  refine awpL_call 1 (by simp [go_sem]; exact ⟨rfl, rfl⟩) rfl rfl (by simp [go_sem]) (by simp [go_sem]; exact ⟨rfl, rfl⟩) (by kernel_rfl) ?_   -- gangway/tlv.Split
  refine (split_calls _ _ _ hw.bytes (by omega)).mono ?_
  rintro _ h3 ⟨fv, rfl, hfv, x3⟩
  refine awpL_rest (by simp [go_sem]; exact ⟨rfl, rfl⟩) ?_
  refine AWP.onlyE [0, 3, 4, 5] (by simp [go_sem]; rfl) ?_
  refine AWP.sc [0, 3, 4, 5, 6, 7] ?_
  have hv3 := (hv1.ext x2).ext x3
  refine awpL_call 1 (by simp [go_sem]; exact ⟨rfl, rfl⟩) rfl rfl (by simp [go_sem]) (by simp [go_sem]; exact ⟨rfl, rfl⟩) (by kernel_rfl) ?_   -- gangway/gangwayref01.Split
  refine (refSplit_calls _ _ _ hv3 (by omega)).mono ?_
  rintro _ h4 ⟨gv, rfl, hgv, x4⟩
  refine awpL_rest (by simp [go_sem]; exact ⟨rfl, rfl⟩) ?_
  refine AWP.onlyE [0, 3, 4, 5, 6, 7] (by simp [go_sem]; rfl) ?_
  refine AWP.seq ?_
  have hjs := join_split raw []
  have hes := splitGo_err raw []
  generalize hsr : splitGo [] raw = sr at *
  obtain ⟨fs, ec⟩ := sr
  simp only [List.nil_append] at *
  have hfl : tot fs ≤ 100000 := by
    by_cases he : ec = 0
    · obtain ⟨gs, q1, q2, q3⟩ := hjs he
      rw [q1]; omega
    · rw [(hes he).1]; simp [tot]
  have hfn := tot_len fs
  have hv4 := hv3.ext x4
  have hw4 := (hw.bytes.ext x3).ext x4
  have sv4 := hv4.conv (P := Try.prog) (t := 24) (e := 5) (u := 9) Try.underlying24 Try.underlying5 Try.underlying9
  have sw4 := hw4.conv (P := Try.prog) (t := 24) (e := 5) (u := 9) Try.underlying24 Try.underlying5 Try.underlying9
  refine AWP.sc [0, 3, 4, 5, 43] ?_
  refine awpL_call 6 (by simp [go_sem]; exact ⟨rfl, rfl⟩) rfl rfl (by simp [go_sem]) (by simp [go_sem]; exact ⟨rfl, rfl⟩) (by kernel_rfl) ?_   -- gangway/gangwayref01.Same
  refine (same_calls _ _ _ _ _ (hfv.ext x4).fields hgv.fields (by omega)).mono ?_
  rintro _ h4 ⟨rfl, rfl⟩
  refine awpL_rest (by simp [go_sem, unA, sv4, sw4]; exact ⟨rfl, rfl⟩) ?_
  refine AWP.onlyE [0, 3, 4, 5, 43] (by simp [go_sem]; rfl) ?_
  refine AWP.cond (by simp [go_sem]; rfl) (fun hc => by cases hc) (fun hc => ?_)
  refine AWP.skip ?_
  simp only [thn, inBlk]
  refine AWP.seq ?_
  by_cases he : ec = 0
  rotate_left
  · refine AWP.sr [0, 3, 4, 45] (by simp [go_sem, he]; exact ⟨rfl, rfl⟩) ?_
    refine AWP.cond (by simp [go_sem]; rfl) (fun hc => ?_) (fun hc => by simp [he] at hc)
    refine AWP.sr [2] (by simp [go_sem]; exact ⟨rfl, rfl⟩) ?_
    refine AWP.ret ?_
    simp [bodyQ, thn, inBlk, resA, go_sem, resV]
  subst he
  refine AWP.sr [0, 3, 4, 45] (by simp [go_sem]; exact ⟨rfl, rfl⟩) ?_
  refine AWP.cond (by simp [go_sem]; rfl) (fun hc => by cases hc) (fun hc => ?_)
  refine AWP.skip ?_
  simp only [thn, inBlk]
  obtain ⟨gs, q1, q2, q3⟩ := hjs rfl
  subst q1
  refine AWP.sc [0, 3, 4, 8, 9] ?_
  refine awpL_call 1 (by simp [go_sem]; exact ⟨rfl, rfl⟩) rfl rfl (by simp [go_sem]) (by simp [go_sem]; exact ⟨rfl, rfl⟩) (by kernel_rfl) ?_   -- gangway/tlv.Join
  refine (join_calls _ _ fs (hfv.ext x4).fields (by omega)).mono ?_
  rintro _ h5 ⟨bv, rfl, hbv, x5⟩
  rw [q2 []] at hbv ⊢
  simp only [List.nil_append] at hbv ⊢
  refine awpL_rest (by simp [go_sem]; exact ⟨rfl, rfl⟩) ?_
  refine AWP.onlyE [0, 3, 4, 8, 9] (by simp [go_sem]; rfl) ?_
  refine AWP.sc [0, 3, 8, 9] ?_
  have hsp : Sp h2.next h4.next h5 fv fs.length := by
    obtain ⟨cs, s1, s2, s3⟩ := ((hfv.ext x4).sp (by omega))
    refine ⟨cs, s1.ext x5, s2, fun j hj => ?_⟩
    obtain ⟨fv', b', z1, z2, z3, z4⟩ := s3 j hj
    exact ⟨fv', b', z1, z2.ext x5, z3, z4⟩
  refine awpL_call 1 (by simp [go_sem]; exact ⟨rfl, rfl⟩) rfl rfl (by simp [go_sem]) (by simp [go_sem]; exact ⟨rfl, rfl⟩) (by kernel_rfl) ?_   -- gangway/gangwaylaw01.spoil
  refine (spoil_calls _ h2.next h4.next _ _ hsp (by omega)).mono ?_
  rintro _ h6 fb
  refine awpL_rest (by simp [go_sem]; exact ⟨rfl, rfl⟩) ?_
  refine AWP.onlyE [0, 3, 8, 9] (by simp [go_sem]; rfl) ?_
  have hb6 : Bytes h6 bv raw := hbv.bytes.keep fb.fr.next fun j hj hbl => fb.up j (hbv.blk j hbl).1
  have hw6 : Bytes h6 w raw := (hw4.ext x5).keep fb.fr.next fun j hj hbl => fb.fr.old j (hw.blk j hbl).2
  have hv6 : Bytes h6 v raw := (hv4.ext x5).keep fb.fr.next fun j hj hbl => fb.fr.old j (Nat.lt_of_lt_of_le (hv1.blk j hbl) x2.next)
  have c1 := hb6.conv (P := Try.prog) (t := 24) (e := 5) (u := 9) Try.underlying24 Try.underlying5 Try.underlying9
  have c2 := hw6.conv (P := Try.prog) (t := 24) (e := 5) (u := 9) Try.underlying24 Try.underlying5 Try.underlying9
  have c3 := hv6.conv (P := Try.prog) (t := 24) (e := 5) (u := 9) Try.underlying24 Try.underlying5 Try.underlying9
  refine AWP.sr [2] (by simp [go_sem, c1, c2, c3]; exact ⟨rfl, rfl⟩) ?_
  refine AWP.ret ?_
  simp [bodyQ, thn, inBlk, resA, go_sem, resV]
end T1
