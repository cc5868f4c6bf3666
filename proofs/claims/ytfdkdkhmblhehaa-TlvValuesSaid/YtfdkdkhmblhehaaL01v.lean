import Derived.Test.YtfdkdkhmblhehaaL01u
import Derived.Test.YtfdkdkhmblhehaaAbWalk2
open Go Ab Go.Proofs
namespace L01
set_option autoImplicit false
set_option linter.unusedSimpArgs false
set_option linter.unusedVariables false

theorem valR_len (bs : List UInt8) (zs : List Int) : (valR bs zs).1.length ≤ bs.length := by
  have := splitGo_len bs []
  unfold valR
  split
  · simp
  · split
    · simpa using this
    · simp

set_option maxHeartbeats 8000000 in
theorem law_calls {h : AHeap} {v w : Value} {bs : List UInt8} {zs : List Int} (hb : h.base = h.next) (hv : Bytes h v bs) (hw : Sl 1 h w zs.length (zs.map (.int .i64))) :
    ACalls Try.prog 9 #[v, w] h fun r _ => r = .bool true := by
  refine Own.of_wf fun k0 => ?_
  obtain ⟨va, vc, rfl⟩ := hv.val
  obtain ⟨wa, wc, rfl⟩ := hw.val
  refine ACalls.of_awp (args := [.slice va bs.length vc, .slice wa zs.length wc]) (n := 43) Try.func9 rfl rfl (by show 2 ≤ 43; omega) ?_
  have hx : ∀ {hh : AHeap} {L : List Chunk}, Own h.asOld hh L → Bytes hh (.slice va bs.length vc) bs := fun o => hv.of_old hb o
  have hz : ∀ {hh : AHeap} {L : List Chunk}, Own h.asOld hh L → Sl 1 hh (.slice wa zs.length wc) zs.length (zs.map (.int .i64)) := fun o => hw.of_old hb o
  (repeat' first
    | refine AWP.seq ?_
    | refine AWP.block ?_
    | (refine AWP.skip ?_; try dsimp only [thn, inBlk])
    | (refine AWP.exit ?_; try simp only [thn, inBlk, if_true, reduceIte, Nat.reduceEqDiff])
    | (refine AWP.ret ?_; try dsimp only [thn, inBlk])
    | (refine AWP.condT ?_ ?_; (focus (simp [go_sem]; done)))
    | (refine AWP.condF ?_ ?_; (focus (simp [go_sem]; done)))
    | (apply AWP.rE; (focus (simp [go_sem]; exact ⟨rfl, rfl⟩)); try dsimp only [thn, inBlk])
    | fail)
  refine AWP.callE (by simp [go_sem]; exact ⟨rfl, rfl, rfl, rfl, rfl⟩) (by kernel_rfl) ?_
  refine mono_wf (T1.speaks_calls h) ?_
  rintro r h1 bn ⟨rfl, x1⟩
  have k1 := k0.ext x1 bn
  by_cases c1 : 100000 < bs.length
  · have d1 : (100000 : Int) < bs.length := by omega
    refine awpL_restE (by simp [go_sem]; exact ⟨rfl, rfl⟩) ?_; try dsimp only [thn, inBlk]
    (repeat' first
      | refine AWP.seq ?_
      | refine AWP.block ?_
      | (refine AWP.skip ?_; try dsimp only [thn, inBlk])
      | (refine AWP.exit ?_; try simp only [thn, inBlk, if_true, reduceIte, Nat.reduceEqDiff])
      | (refine AWP.ret ?_; try dsimp only [thn, inBlk])
      | (refine AWP.condT ?_ ?_; (focus (simp [go_sem, d1, c1]; done)))
      | (refine AWP.condF ?_ ?_; (focus (simp [go_sem, d1, c1]; done)))
      | (apply AWP.rE; (focus (simp [go_sem, d1, c1]; exact ⟨rfl, rfl⟩)); try dsimp only [thn, inBlk])
      | fail)
    simp [bodyQ, thn, inBlk, resA, resV, go_sem]
  have d1 : ¬ (100000 : Int) < bs.length := by omega
  by_cases c2 : 1000 < zs.length
  · have d2 : (1000 : Int) < zs.length := by omega
    refine awpL_restE (by simp [go_sem]; exact ⟨rfl, rfl⟩) ?_; try dsimp only [thn, inBlk]
    (repeat' first
      | refine AWP.seq ?_
      | refine AWP.block ?_
      | (refine AWP.skip ?_; try dsimp only [thn, inBlk])
      | (refine AWP.exit ?_; try simp only [thn, inBlk, if_true, reduceIte, Nat.reduceEqDiff])
      | (refine AWP.ret ?_; try dsimp only [thn, inBlk])
      | (refine AWP.condT ?_ ?_; (focus (simp [go_sem, d1, d2, c1, c2]; done)))
      | (refine AWP.condF ?_ ?_; (focus (simp [go_sem, d1, d2, c1, c2]; done)))
      | (apply AWP.rE; (focus (simp [go_sem, d1, d2, c1, c2]; exact ⟨rfl, rfl⟩)); try dsimp only [thn, inBlk])
      | fail)
    simp [bodyQ, thn, inBlk, resA, resV, go_sem]
  have d2 : ¬ (1000 : Int) < zs.length := by omega
  refine awpL_restE (by simp [go_sem]; exact ⟨rfl, rfl⟩) ?_; try dsimp only [thn, inBlk]
  (repeat' first
    | refine AWP.seq ?_
    | refine AWP.block ?_
    | (refine AWP.skip ?_; try dsimp only [thn, inBlk])
    | (refine AWP.exit ?_; try simp only [thn, inBlk, if_true, reduceIte, Nat.reduceEqDiff])
    | (refine AWP.ret ?_; try dsimp only [thn, inBlk])
    | (refine AWP.condT ?_ ?_; (focus (simp [go_sem, d1, d2, c1, c2]; done)))
    | (refine AWP.condF ?_ ?_; (focus (simp [go_sem, d1, d2, c1, c2]; done)))
    | (apply AWP.rE; (focus (simp [go_sem, d1, d2, c1, c2]; exact ⟨rfl, rfl⟩)); try dsimp only [thn, inBlk])
    | fail)
  obtain ⟨a2, c2', h2, e2, k2⟩ := k1.copy (P := Try.prog) (t := 24) (xt := 24) (i := h1.next) Try.underlying24 tsz5 tby5 tz5 nI24 (fun _ o => hx o) (by omega) rfl
  have k3 : Own h.asOld _ (os 3 1 (.slice (some ⟨h2.next, 0, none⟩) 0 0) 0 [] :: _) := (k2.push (.row [] 3 1 true false)).os_mk (n := 0) (cap := 0) (off := 0) (cs := []) (Nat.le_refl _) (by simp) (by rfl)
  obtain ⟨v4, h4, e4, k4⟩ := Own.app (P := Try.prog) (t := 48) (xt := 48) (m := zs.length) (xs := zs.map (.int .i64)) (xv := .slice wa zs.length wc) Try.underlying48 tsz3 tby3 tz3 nI48 (by omega) (by omega) rfl k3 (hz k3).src (by simp) (by rw [List.all_eq_true]; intro x hx; obtain ⟨z, _, rfl⟩ := List.mem_map.1 hx; rfl) (by omega)
  rw [List.nil_append, Nat.zero_add] at k4
  obtain ⟨a4, c4, rfl⟩ := k4.os_val
  refine AWP.callE (by simp [go_sem, e2, e4]; exact ⟨rfl, rfl, rfl, rfl, rfl⟩) (by kernel_rfl) ?_
  refine (values_calls k4 (fun _ o => o.b1.ob_bytes) (fun _ o => o.os_sl) (by omega) (by omega)).mono ?_
  rintro r h5 ⟨a5, c5, rfl, k5⟩
  refine awpL_restE (by simp [go_sem]; exact ⟨rfl, rfl⟩) ?_; try dsimp only [thn, inBlk]
  (repeat' first
    | refine AWP.seq ?_
    | refine AWP.block ?_
    | (refine AWP.skip ?_; try dsimp only [thn, inBlk])
    | (refine AWP.exit ?_; try simp only [thn, inBlk, if_true, reduceIte, Nat.reduceEqDiff])
    | (refine AWP.ret ?_; try dsimp only [thn, inBlk])
    | (refine AWP.condT ?_ ?_; (focus (simp [go_sem]; done)))
    | (refine AWP.condF ?_ ?_; (focus (simp [go_sem]; done)))
    | (apply AWP.rE; (focus (simp [go_sem]; exact ⟨rfl, rfl⟩)); try dsimp only [thn, inBlk])
    | fail)
  refine AWP.callE (by simp [go_sem]; exact ⟨rfl, rfl, rfl, rfl, rfl⟩) (by kernel_rfl) ?_
  refine (refValues_calls k5 (fun _ o => hx o) (fun _ o => hz o) (by omega) (by omega)).mono ?_
  rintro r h6 ⟨a6, c6, rfl, k6⟩
  have hl := valR_len bs zs
  refine awpL_restE (by simp [go_sem]; exact ⟨rfl, rfl⟩) ?_; try dsimp only [thn, inBlk]
  (repeat' first
    | refine AWP.seq ?_
    | refine AWP.block ?_
    | (refine AWP.skip ?_; try dsimp only [thn, inBlk])
    | (refine AWP.exit ?_; try simp only [thn, inBlk, if_true, reduceIte, Nat.reduceEqDiff])
    | (refine AWP.ret ?_; try dsimp only [thn, inBlk])
    | (refine AWP.condT ?_ ?_; (focus (simp [go_sem]; done)))
    | (refine AWP.condF ?_ ?_; (focus (simp [go_sem]; done)))
    | (apply AWP.rE; (focus (simp [go_sem]; exact ⟨rfl, rfl⟩)); try dsimp only [thn, inBlk])
    | fail)
  refine AWP.callE (by simp [go_sem]; exact ⟨rfl, rfl, rfl, rfl, rfl⟩) (by kernel_rfl) ?_
  refine (sameTexts_calls (txs_pcs k6.b1) (txs_pcs k6) (by omega)).mono ?_
  rintro r h7 ⟨rfl, rfl⟩
  rw [decide_eq_true rfl]
  refine awpL_restE (by simp [go_sem]; exact ⟨rfl, rfl⟩) ?_; try dsimp only [thn, inBlk]
  (repeat' first
    | refine AWP.seq ?_
    | refine AWP.block ?_
    | (refine AWP.skip ?_; try dsimp only [thn, inBlk])
    | (refine AWP.exit ?_; try simp only [thn, inBlk, if_true, reduceIte, Nat.reduceEqDiff])
    | (refine AWP.ret ?_; try dsimp only [thn, inBlk])
    | (refine AWP.condT ?_ ?_; (focus (simp [go_sem]; done)))
    | (refine AWP.condF ?_ ?_; (focus (simp [go_sem]; done)))
    | (apply AWP.rE; (focus (simp [go_sem]; exact ⟨rfl, rfl⟩)); try dsimp only [thn, inBlk])
    | fail)
  simp [bodyQ, thn, inBlk, resA, resV, go_sem]
end L01
