import Derived.Test.YtfdkdkhmblhehaaL01n
open Go Ab Go.Proofs
namespace L01
set_option autoImplicit false
set_option linter.unusedSimpArgs false
set_option linter.unusedVariables false

theorem split_join : ∀ (fs : List F) (pr : List UInt8), (T1.joinGo pr fs).2 = 0 → ∃ bs, (T1.joinGo pr fs).1 = pr ++ bs ∧ (∀ acc, T1.splitGo acc bs = (acc ++ fs, 0)) ∧ bs.length ≤ T1.tot fs
  | [], pr, _ => ⟨[], by simp [T1.joinGo], fun acc => by rw [T1.splitGo]; simp, by simp⟩
  | f :: fs, pr, h => by
    rw [T1.joinGo] at h ⊢
    by_cases h1 : f.1 < 1 ∨ 255 < f.1
    · rw [if_pos h1] at h; cases h
    rw [if_neg h1] at h ⊢
    by_cases h2 : 65535 < f.2.length
    · rw [if_pos h2] at h; cases h
    rw [if_neg h2] at h ⊢
    obtain ⟨bs, e1, e2, e3⟩ := split_join fs _ h
    refine ⟨T1.encF f ++ bs, by rw [e1, List.append_assoc], fun acc => ?_, by rw [List.length_append, encF_len, T1.tot]; omega⟩
    obtain ⟨t, body⟩ := f
    simp only at h1 h2
    simp only [not_or] at h1
    have hb : UInt8.ofNat t.toNat ≠ 0 := by
      intro e
      have := congrArg UInt8.toNat e
      simp at this; omega
    have ht : ((UInt8.ofNat t.toNat).toNat : Int) = t := by simp; omega
    have hn : 256 * (UInt8.ofNat (body.length / 256)).toNat + (UInt8.ofNat body.length).toNat = body.length := by simp; omega
    simp only [T1.encF, List.cons_append, List.nil_append]
    rw [T1.splitGo_step acc hb (by rw [hn]; simp), hn, ht]
    simp [e2]

theorem tot_tg : ∀ fs : List F, T1.tot fs ≤ tg fs ∧ (∀ f ∈ fs, f.2.length ≤ tg fs) ∧ 10 * fs.length ≤ tg fs
  | [] => ⟨by simp [T1.tot], by simp, by simp⟩
  | f :: fs => by
    obtain ⟨h1, h2, h3⟩ := tot_tg fs
    have e : tg (f :: fs) = f.2.length + 10 + tg fs := by simp [tg]
    rw [e, T1.tot]
    refine ⟨by omega, fun g hg => ?_, by rw [List.length_cons]; omega⟩
    rcases List.mem_cons.1 hg with rfl | hg
    · omega
    · have := h2 g hg; omega

set_option maxHeartbeats 8000000 in
theorem joins_calls {h : AHeap} {v : Value} {fs : List F} {ac : List (Option Addr × Nat)} (hb : h.base = h.next) (hv : Fsx h v fs ac) (hl : fs.length ≤ 9223372036854775807) :
    ACalls Try.prog 5 #[v] h fun r _ => r = .bool true := by
  refine Own.of_wf fun k0 => ?_
  have hx : ∀ {hh : AHeap} {L : List Chunk}, Own h.asOld hh L → Fsx hh v fs ac := fun o => hv.of_old hb o
  obtain ⟨va, vc, rfl⟩ := hv.fs.val
  refine ACalls.of_awp (args := [.slice va fs.length vc]) (n := 56) Try.func5 rfl rfl (by show 1 ≤ 56; omega) ?_
  (repeat' first
    | refine AWP.seq ?_
    | refine AWP.block ?_
    | (refine AWP.skip ?_; try dsimp only [thn, inBlk])
    | (refine AWP.exit ?_; try simp only [thn, inBlk, if_true, reduceIte, Nat.reduceEqDiff])
    | (refine AWP.ret ?_; try dsimp only [thn, inBlk])
    | (refine AWP.condT ?_ ?_; (focus (simp [go_sem]; done)))
    | (refine AWP.condF ?_ ?_; (focus (simp [go_sem]; done)))
    | (apply AWP.rE; (focus (simp [go_sem]; exact ⟨rfl, rfl⟩)); try dsimp only [thn, inBlk])
    | fail)
  refine AWP.callE (by simp [go_sem]; exact ⟨rfl, rfl, rfl, rfl, rfl⟩) (by kernel_rfl) ?_
  refine mono_wf (T1.speaks_calls h) ?_
  rintro r h1 bn ⟨rfl, x1⟩
  have k1 := k0.ext x1 bn
  refine awpL_restE (by simp [go_sem]; exact ⟨rfl, rfl⟩) ?_; try dsimp only [thn, inBlk]
  (repeat' first
    | refine AWP.seq ?_
    | refine AWP.block ?_
    | (refine AWP.skip ?_; try dsimp only [thn, inBlk])
    | (refine AWP.exit ?_; try simp only [thn, inBlk, if_true, reduceIte, Nat.reduceEqDiff])
    | (refine AWP.ret ?_; try dsimp only [thn, inBlk])
    | (refine AWP.condT ?_ ?_; (focus (simp [go_sem]; done)))
    | (refine AWP.condF ?_ ?_; (focus (simp [go_sem]; done)))
    | (apply AWP.rE; (focus (simp [go_sem]; exact ⟨rfl, rfl⟩)); try dsimp only [thn, inBlk])
    | fail)
  refine AWP.callE (by simp [go_sem]; exact ⟨rfl, rfl, rfl, rfl, rfl⟩) (by kernel_rfl) ?_
  refine (great_calls k1 (fun _ o => (hx o).fs) hl).mono ?_
  rintro r h2 ⟨g, rfl, hg, k2⟩
  cases g
  rotate_left
  · refine awpL_restE (by simp [go_sem]; exact ⟨rfl, rfl⟩) ?_; try dsimp only [thn, inBlk]
    (repeat' first
      | refine AWP.seq ?_
      | refine AWP.block ?_
      | (refine AWP.skip ?_; try dsimp only [thn, inBlk])
      | (refine AWP.exit ?_; try simp only [thn, inBlk, if_true, reduceIte, Nat.reduceEqDiff])
      | (refine AWP.ret ?_; try dsimp only [thn, inBlk])
      | (refine AWP.condT ?_ ?_; (focus (simp [go_sem]; done)))
      | (refine AWP.condF ?_ ?_; (focus (simp [go_sem]; done)))
      | (apply AWP.rE; (focus (simp [go_sem]; exact ⟨rfl, rfl⟩)); try dsimp only [thn, inBlk])
      | fail)
    simp [bodyQ, thn, inBlk, resA, resV, go_sem]
  have hg := hg rfl
  obtain ⟨t1, t2, t4⟩ := tot_tg fs
  have t3 := T1.tot_len fs
  refine awpL_restE (by simp [go_sem]; exact ⟨rfl, rfl⟩) ?_; try dsimp only [thn, inBlk]
  (repeat' first
    | refine AWP.seq ?_
    | refine AWP.block ?_
    | (refine AWP.skip ?_; try dsimp only [thn, inBlk])
    | (refine AWP.exit ?_; try simp only [thn, inBlk, if_true, reduceIte, Nat.reduceEqDiff])
    | (refine AWP.ret ?_; try dsimp only [thn, inBlk])
    | (refine AWP.condT ?_ ?_; (focus (simp [go_sem]; done)))
    | (refine AWP.condF ?_ ?_; (focus (simp [go_sem]; done)))
    | (apply AWP.rE; (focus (simp [go_sem]; exact ⟨rfl, rfl⟩)); try dsimp only [thn, inBlk])
    | fail)
  refine AWP.callE (by simp [go_sem]; exact ⟨rfl, rfl, rfl, rfl, rfl⟩) (by kernel_rfl) ?_
  refine (copied_calls k2 (fun _ o => (hx o).fs) (by omega) (fun f hf => by have := t2 f hf; omega)).mono ?_
  rintro r h3 ⟨ca, cc, rfl, k3⟩
  refine awpL_restE (by simp [go_sem]; exact ⟨rfl, rfl⟩) ?_; try dsimp only [thn, inBlk]
  (repeat' first
    | refine AWP.seq ?_
    | refine AWP.block ?_
    | (refine AWP.skip ?_; try dsimp only [thn, inBlk])
    | (refine AWP.exit ?_; try simp only [thn, inBlk, if_true, reduceIte, Nat.reduceEqDiff])
    | (refine AWP.ret ?_; try dsimp only [thn, inBlk])
    | (refine AWP.condT ?_ ?_; (focus (simp [go_sem]; done)))
    | (refine AWP.condF ?_ ?_; (focus (simp [go_sem]; done)))
    | (apply AWP.rE; (focus (simp [go_sem]; exact ⟨rfl, rfl⟩)); try dsimp only [thn, inBlk])
    | fail)
  refine AWP.callE (by simp [go_sem]; exact ⟨rfl, rfl, rfl, rfl, rfl⟩) (by kernel_rfl) ?_
  refine mono_wf (T1.join_calls h3 _ fs (Fs.fields k3.brecs_read) (by omega)) ?_
  rintro r h4 bn4 ⟨bv, rfl, gb, x4⟩
  have k4 : Own h.asOld h4 (ob 5 bv (T1.joinGo [] fs).1 :: fch (.slice ca fs.length cc) fs :: []) := k3.of_obytes x4 bn4 gb
  obtain ⟨ja, jc, rfl⟩ := k4.os_val
  refine awpL_restE (by simp [go_sem]; exact ⟨rfl, rfl⟩) ?_; try dsimp only [thn, inBlk]
  (repeat' first
    | refine AWP.seq ?_
    | refine AWP.block ?_
    | (refine AWP.skip ?_; try dsimp only [thn, inBlk])
    | (refine AWP.exit ?_; try simp only [thn, inBlk, if_true, reduceIte, Nat.reduceEqDiff])
    | (refine AWP.ret ?_; try dsimp only [thn, inBlk])
    | (refine AWP.condT ?_ ?_; (focus (simp [go_sem]; done)))
    | (refine AWP.condF ?_ ?_; (focus (simp [go_sem]; done)))
    | (apply AWP.rE; (focus (simp [go_sem]; exact ⟨rfl, rfl⟩)); try dsimp only [thn, inBlk])
    | fail)
  refine AWP.callE (by simp [go_sem]; exact ⟨rfl, rfl, rfl, rfl, rfl⟩) (by kernel_rfl) ?_
  refine (refJoin_calls k4 (fun _ o => hx o) (by omega)).mono ?_
  rintro r h5 ⟨ra, rc, rfl, k5⟩
  have s1 := k5.ob_bytes.str (P := Try.prog) (t := 24) (e := 5) (u := 9) Try.underlying24 Try.underlying5 Try.underlying9
  have s2 := k5.b1.ob_bytes.str (P := Try.prog) (t := 24) (e := 5) (u := 9) Try.underlying24 Try.underlying5 Try.underlying9
  refine awpL_restE (by simp [go_sem]; exact ⟨rfl, rfl⟩) ?_; try dsimp only [thn, inBlk]
  (repeat' first
    | refine AWP.seq ?_
    | refine AWP.block ?_
    | (refine AWP.skip ?_; try dsimp only [thn, inBlk])
    | (refine AWP.exit ?_; try simp only [thn, inBlk, if_true, reduceIte, Nat.reduceEqDiff])
    | (refine AWP.ret ?_; try dsimp only [thn, inBlk])
    | (refine AWP.condT ?_ ?_; (focus (simp [go_sem]; done)))
    | (refine AWP.condF ?_ ?_; (focus (simp [go_sem]; done)))
    | (apply AWP.rE; (focus (simp [go_sem]; exact ⟨rfl, rfl⟩)); try dsimp only [thn, inBlk])
    | fail)
  refine AWP.callE (by simp [go_sem, s1, s2]; exact ⟨rfl, rfl, rfl, rfl, rfl⟩) (by kernel_rfl) ?_
  refine mono_wf (T1.same_calls h5 _ _ fs fs (Fs.fields k5.b2.brecs_read) (hx k5).fs.fields (by omega)) ?_
  rintro r h6 bn6 ⟨rfl, rfl⟩
  have efs : (fs == fs) = true := by simp
  rw [efs]
  by_cases hc : (T1.joinGo [] fs).2 = 0
  rotate_left
  · have hc' : ((T1.joinGo [] fs).2 != 0) = true := by simpa using hc
    refine awpL_restE (by simp [go_sem]; exact ⟨rfl, rfl⟩) ?_; try dsimp only [thn, inBlk]
    (repeat' first
      | refine AWP.seq ?_
      | refine AWP.block ?_
      | (refine AWP.skip ?_; try dsimp only [thn, inBlk])
      | (refine AWP.exit ?_; try simp only [thn, inBlk, if_true, reduceIte, Nat.reduceEqDiff])
      | (refine AWP.ret ?_; try dsimp only [thn, inBlk])
      | (refine AWP.condT ?_ ?_; (focus (simp [go_sem, hc']; done)))
      | (refine AWP.condF ?_ ?_; (focus (simp [go_sem, hc']; done)))
      | (apply AWP.rE; (focus (simp [go_sem, hc']; exact ⟨rfl, rfl⟩)); try dsimp only [thn, inBlk])
      | fail)
    simp [bodyQ, thn, inBlk, resA, resV, go_sem]
  obtain ⟨bs, e1, e2, e3⟩ := split_join fs [] hc
  have hc' : ((T1.joinGo [] fs).2 != 0) = false := by simp [hc]
  refine awpL_restE (by simp [go_sem]; exact ⟨rfl, rfl⟩) ?_; try dsimp only [thn, inBlk]
  (repeat' first
    | refine AWP.seq ?_
    | refine AWP.block ?_
    | (refine AWP.skip ?_; try dsimp only [thn, inBlk])
    | (refine AWP.exit ?_; try simp only [thn, inBlk, if_true, reduceIte, Nat.reduceEqDiff])
    | (refine AWP.ret ?_; try dsimp only [thn, inBlk])
    | (refine AWP.condT ?_ ?_; (focus (simp [go_sem, hc']; done)))
    | (refine AWP.condF ?_ ?_; (focus (simp [go_sem, hc']; done)))
    | (apply AWP.rE; (focus (simp [go_sem, hc']; exact ⟨rfl, rfl⟩)); try dsimp only [thn, inBlk])
    | fail)
  refine AWP.callE (by simp [go_sem]; exact ⟨rfl, rfl, rfl, rfl, rfl⟩) (by kernel_rfl) ?_
  rw [List.nil_append] at e1
  refine mono_wf (T1.split_calls h6 _ (T1.joinGo [] fs).1 k5.b1.ob_bytes (by rw [e1]; omega)) ?_
  rintro r h7 bn7 ⟨fv, rfl, fo, x7⟩
  have k7 := k5.ext x7 bn7
  have es : T1.splitGo [] (T1.joinGo [] fs).1 = (fs, 0) := by rw [e1, e2 []]; rfl
  rw [es] at fo ⊢
  refine awpL_restE (by simp [go_sem]; exact ⟨rfl, rfl⟩) ?_; try dsimp only [thn, inBlk]
  (repeat' first
    | refine AWP.seq ?_
    | refine AWP.block ?_
    | (refine AWP.skip ?_; try dsimp only [thn, inBlk])
    | (refine AWP.exit ?_; try simp only [thn, inBlk, if_true, reduceIte, Nat.reduceEqDiff])
    | (refine AWP.ret ?_; try dsimp only [thn, inBlk])
    | (refine AWP.condT ?_ ?_; (focus (simp [go_sem]; done)))
    | (refine AWP.condF ?_ ?_; (focus (simp [go_sem]; done)))
    | (apply AWP.rE; (focus (simp [go_sem]; exact ⟨rfl, rfl⟩)); try dsimp only [thn, inBlk])
    | fail)
  refine AWP.callE (by simp [go_sem]; exact ⟨rfl, rfl, rfl, rfl, rfl⟩) (by kernel_rfl) ?_
  refine (T1.same_calls h7 _ _ fs fs fo.fields (hx k7).fs.fields (by omega)).mono ?_
  rintro r h8 ⟨rfl, rfl⟩
  rw [efs]
  refine awpL_restE (by simp [go_sem]; exact ⟨rfl, rfl⟩) ?_; try dsimp only [thn, inBlk]
  (repeat' first
    | refine AWP.seq ?_
    | refine AWP.block ?_
    | (refine AWP.skip ?_; try dsimp only [thn, inBlk])
    | (refine AWP.exit ?_; try simp only [thn, inBlk, if_true, reduceIte, Nat.reduceEqDiff])
    | (refine AWP.ret ?_; try dsimp only [thn, inBlk])
    | (refine AWP.condT ?_ ?_; (focus (simp [go_sem]; done)))
    | (refine AWP.condF ?_ ?_; (focus (simp [go_sem]; done)))
    | (apply AWP.rE; (focus (simp [go_sem]; exact ⟨rfl, rfl⟩)); try dsimp only [thn, inBlk])
    | fail)
  simp [bodyQ, thn, inBlk, resA, resV, go_sem]

/-! ### What comes in -/
theorem fx_of {h : AHeap} {v : Value} {fs : List F} (k : Fs h v fs) : ∃ ac, Fsx h v fs ac := by
  obtain ⟨ac, h1, h2, h3⟩ := k
  exact ⟨ac, h1, h2, h3⟩
theorem joins_in {h : AHeap} {v : Value} {fs : List F} (hb : h.base = h.next) (hv : Fs h v fs) (hl : fs.length ≤ 9223372036854775807) :
    ACalls Try.prog 5 #[v] h fun r _ => r = .bool true := by
  obtain ⟨ac, hx⟩ := fx_of hv
  exact joins_calls hb hx hl
end L01
