import Derived.Test.YteodcjamnfoidaaDoorL19o
open Go Ab Go.Proofs
namespace L19
set_option autoImplicit false
set_option linter.unusedSimpArgs false
set_option linter.unusedVariables false

theorem set2 (M : Nat) (d : List UInt8) (n : Nd) : setN (T2 M d) dfB n = [top, (dB, ⟨true, rootB, 63, []⟩), (dfB, n)] := rfl
theorem ch2b (M : Nat) (d : List UInt8) : chR (T2 M d) bobB dfB 63 = (114, T2 M d) := by
  unfold chR
  rw [if_pos (come2 M d bobB), get2]; rfl
theorem ch2a (M : Nat) (d : List UInt8) : chR (T2 M d) annB dfB 56 = (0, T2 56 d) := by
  unfold chR
  rw [if_pos (come2 M d annB), get2]; rfl
theorem wr2 (M : Nat) (hM : M ≤ 7) (d : List UInt8) : wrR (T2 M d) annB dfB [] 0 = (114, T2 M d) := by
  have h : may annB ⟨false, annB, M, d⟩ 2 = false := by
    unfold may
    rw [if_pos rfl, show M / 8 = 0 by omega]; rfl
  unfold wrR
  rw [if_pos (come2 M d annB), get2]
  rw [if_neg (by decide), if_neg (by simp)]
  dsimp only
  rw [if_neg (by simp), if_pos h]
theorem rd2a (M : Nat) (hM : M ≤ 7) (d : List UInt8) : rdR (T2 M d) annB dfB = (114, []) := by
  have h : may annB ⟨false, annB, M, d⟩ 4 = false := by
    unfold may
    rw [if_pos rfl, show M / 8 = 0 by omega]; rfl
  rw [rd2, if_pos h]
theorem rd56a (d : List UInt8) : rdR (T2 56 d) annB dfB = (0, d) := by
  rw [rd2, if_neg (show ¬ may annB ⟨false, annB, 56, d⟩ 4 = false from (by decide : ¬ may annB ⟨false, annB, 56, []⟩ 4 = false))]
theorem rd56b (d : List UInt8) : rdR (T2 56 d) bobB dfB = (114, []) := by
  rw [rd2, if_pos (show may bobB ⟨false, annB, 56, d⟩ 4 = false from (by decide : may bobB ⟨false, annB, 56, []⟩ 4 = false))]

set_option maxHeartbeats 8000000 in
theorem owner_calls {h : AHeap} {v : Value} {d : List UInt8} {z : Int} (hb : h.base = h.next) (hp : Bytes h v d) :
    ACalls Tryd.prog 4 #[v, .int .i64 z] h fun r _ => r = .bool true := by
  refine Own.of_wf fun k0 => ?_
  obtain ⟨va, vc, rfl⟩ := hp.val
  refine ACalls.of_awp (args := [.slice va d.length vc, .int .i64 z]) (n := 86) Tryd.func4 rfl rfl (by show 2 ≤ 86; omega) ?_
  (repeat' first
    | refine AWP.seq ?_
    | refine AWP.block ?_
    | (refine AWP.skip ?_; try dsimp only [thn, inBlk])
    | (refine AWP.exit ?_; try simp only [thn, inBlk, if_true, reduceIte, Nat.reduceEqDiff])
    | (refine AWP.ret ?_; try dsimp only [thn, inBlk])
    | (refine AWP.condT ?_ ?_; (focus (simp [go_sem]; done)))
    | (refine AWP.condF ?_ ?_; (focus (simp [go_sem]; done)))
    | (apply AWP.rE; (focus (simp [go_sem]; exact ⟨rfl, rfl⟩)); try dsimp only [thn, inBlk])
    | fail)
  refine AWP.callE (by simp [go_sem]; exact ⟨rfl, rfl, rfl, rfl, rfl⟩) (by kernel_rfl) ?_
  refine (speaks_calls k0).mono ?_
  rintro r h1 ⟨rfl, k1⟩
  refine awpL_restE (by simp [go_sem]; exact ⟨rfl, rfl⟩) ?_; try dsimp only [thn, inBlk]
  by_cases hl : 900 < d.length
  · have hl' : (900 : Int) < d.length := by omega
    (repeat' first
      | refine AWP.seq ?_
      | refine AWP.block ?_
      | (refine AWP.skip ?_; try dsimp only [thn, inBlk])
      | (refine AWP.exit ?_; try simp only [thn, inBlk, if_true, reduceIte, Nat.reduceEqDiff])
      | (refine AWP.ret ?_; try dsimp only [thn, inBlk])
      | (refine AWP.condT ?_ ?_; (focus (simp [go_sem, hl']; done)))
      | (refine AWP.condF ?_ ?_; (focus (simp [go_sem, hl']; done)))
      | (apply AWP.rE; (focus (simp [go_sem, hl']; exact ⟨rfl, rfl⟩)); try dsimp only [thn, inBlk])
      | fail)
    simp [bodyQ, thn, inBlk, resA, resV, go_sem]
  have hl' : ¬ (900 : Int) < d.length := by omega
  (repeat' first
    | refine AWP.seq ?_
    | refine AWP.block ?_
    | (refine AWP.skip ?_; try dsimp only [thn, inBlk])
    | (refine AWP.exit ?_; try simp only [thn, inBlk, if_true, reduceIte, Nat.reduceEqDiff])
    | (refine AWP.ret ?_; try dsimp only [thn, inBlk])
    | (refine AWP.condT ?_ ?_; (focus (simp [go_sem, hl']; done)))
    | (refine AWP.condF ?_ ?_; (focus (simp [go_sem, hl']; done)))
    | (apply AWP.rE; (focus (simp [go_sem, hl']; exact ⟨rfl, rfl⟩)); try dsimp only [thn, inBlk])
    | fail)
  refine AWP.callE (by simp [go_sem]; exact ⟨rfl, rfl, rfl, rfl, rfl⟩) (by kernel_rfl) ?_
  refine (new_calls k1).mono ?_
  rintro r h2 ⟨i, rfl, k2⟩
  refine awpL_restE (by simp [go_sem]; exact ⟨rfl, rfl⟩) ?_; try dsimp only [thn, inBlk]
  (repeat' first
    | refine AWP.seq ?_
    | refine AWP.block ?_
    | (refine AWP.skip ?_; try dsimp only [thn, inBlk])
    | (refine AWP.exit ?_; try simp only [thn, inBlk, if_true, reduceIte, Nat.reduceEqDiff])
    | (refine AWP.ret ?_; try dsimp only [thn, inBlk])
    | (refine AWP.condT ?_ ?_; (focus (simp [go_sem]; done)))
    | (refine AWP.condF ?_ ?_; (focus (simp [go_sem]; done)))
    | (apply AWP.rE; (focus (simp [go_sem]; exact ⟨rfl, rfl⟩)); try dsimp only [thn, inBlk])
    | fail)
  refine AWP.callE (by simp [go_sem]; exact ⟨rfl, rfl, rfl, rfl, rfl⟩) (by kernel_rfl) ?_
  refine (mkdir_calls (who := rootB) (p := dB) (z := 63) TK.top k2 (by decide)).mono ?_
  rintro r h3 ⟨rfl, k3⟩
  rw [db1] at k3 ⊢
  obtain ⟨M, hM, wz⟩ := and_mask z 7 (by omega)
  have hwr : wrR T1 annB dfB d (M : Int) = (0, T2 M d) := by
    rw [wr1, if_neg (by simp [rightB]; omega), if_neg (by omega)]; rfl
  refine awpL_toCall (by simp [go_sem, wz]; exact ⟨rfl, rfl, rfl, rfl, rfl⟩) (by kernel_rfl) ?_
  refine (write_calls (who := annB) (p := dfB) (d := d) (z := (M : Int)) tkT1 k3 (fun hh kk => hp.of_old hb kk) (by decide) (by omega)).mono ?_
  rintro r h4 ⟨rfl, k4⟩
  rw [hwr] at k4 ⊢
  have tk2 := tkT2 (M := M) (d := d) (by omega) (by omega)
  have tk56 := tkT2 (M := 56) (d := d) (by omega) (by omega)
  refine awpL_restE (by simp [go_sem]; exact ⟨rfl, rfl⟩) ?_; try dsimp only [thn, inBlk]
  (repeat' first
    | refine AWP.seq ?_
    | refine AWP.block ?_
    | (refine AWP.skip ?_; try dsimp only [thn, inBlk])
    | (refine AWP.exit ?_; try simp only [thn, inBlk, if_true, reduceIte, Nat.reduceEqDiff])
    | (refine AWP.ret ?_; try dsimp only [thn, inBlk])
    | (refine AWP.condT ?_ ?_; (focus (simp [go_sem]; done)))
    | (refine AWP.condF ?_ ?_; (focus (simp [go_sem]; done)))
    | (apply AWP.rE; (focus (simp [go_sem]; exact ⟨rfl, rfl⟩)); try dsimp only [thn, inBlk])
    | fail)
  refine AWP.callE (by simp [go_sem]; exact ⟨rfl, rfl, rfl, rfl, rfl⟩) (by kernel_rfl) ?_
  refine (read_calls (who := annB) (p := dfB) tk2 k4 (by decide)).mono ?_
  rintro r h5 ⟨a5, c5, rfl, k5⟩
  rw [rd2a M hM] at k5 ⊢
  refine awpL_restE (by simp [go_sem]; exact ⟨rfl, rfl⟩) ?_; try dsimp only [thn, inBlk]
  (repeat' first
    | refine AWP.seq ?_
    | refine AWP.block ?_
    | (refine AWP.skip ?_; try dsimp only [thn, inBlk])
    | (refine AWP.exit ?_; try simp only [thn, inBlk, if_true, reduceIte, Nat.reduceEqDiff])
    | (refine AWP.ret ?_; try dsimp only [thn, inBlk])
    | (refine AWP.condT ?_ ?_; (focus (simp [go_sem]; done)))
    | (refine AWP.condF ?_ ?_; (focus (simp [go_sem]; done)))
    | (apply AWP.rE; (focus (simp [go_sem]; exact ⟨rfl, rfl⟩)); try dsimp only [thn, inBlk])
    | fail)
  refine AWP.callE (by simp [go_sem]; exact ⟨rfl, rfl, rfl, rfl, rfl⟩) (by kernel_rfl) ?_
  refine (write_calls (who := annB) (p := dfB) (d := []) (z := 0) tk2 k5.tail (fun hh kk => Bytes.nil hh) (by decide) (by simp)).mono ?_
  rintro r h6 ⟨rfl, k6⟩
  rw [wr2 M hM] at k6 ⊢
  refine awpL_restE (by simp [go_sem]; exact ⟨rfl, rfl⟩) ?_; try dsimp only [thn, inBlk]
  (repeat' first
    | refine AWP.seq ?_
    | refine AWP.block ?_
    | (refine AWP.skip ?_; try dsimp only [thn, inBlk])
    | (refine AWP.exit ?_; try simp only [thn, inBlk, if_true, reduceIte, Nat.reduceEqDiff])
    | (refine AWP.ret ?_; try dsimp only [thn, inBlk])
    | (refine AWP.condT ?_ ?_; (focus (simp [go_sem]; done)))
    | (refine AWP.condF ?_ ?_; (focus (simp [go_sem]; done)))
    | (apply AWP.rE; (focus (simp [go_sem]; exact ⟨rfl, rfl⟩)); try dsimp only [thn, inBlk])
    | fail)
  refine AWP.callE (by simp [go_sem]; exact ⟨rfl, rfl, rfl, rfl, rfl⟩) (by kernel_rfl) ?_
  refine (chmod_calls (who := bobB) (p := dfB) (z := 63) tk2 k6 (by decide)).mono ?_
  rintro r h7 ⟨rfl, k7⟩
  rw [ch2b] at k7 ⊢
  refine awpL_restE (by simp [go_sem]; exact ⟨rfl, rfl⟩) ?_; try dsimp only [thn, inBlk]
  (repeat' first
    | refine AWP.seq ?_
    | refine AWP.block ?_
    | (refine AWP.skip ?_; try dsimp only [thn, inBlk])
    | (refine AWP.exit ?_; try simp only [thn, inBlk, if_true, reduceIte, Nat.reduceEqDiff])
    | (refine AWP.ret ?_; try dsimp only [thn, inBlk])
    | (refine AWP.condT ?_ ?_; (focus (simp [go_sem]; done)))
    | (refine AWP.condF ?_ ?_; (focus (simp [go_sem]; done)))
    | (apply AWP.rE; (focus (simp [go_sem]; exact ⟨rfl, rfl⟩)); try dsimp only [thn, inBlk])
    | fail)
  refine AWP.callE (by simp [go_sem]; exact ⟨rfl, rfl, rfl, rfl, rfl⟩) (by kernel_rfl) ?_
  refine (chmod_calls (who := annB) (p := dfB) (z := 56) tk2 k7 (by decide)).mono ?_
  rintro r h8 ⟨rfl, k8⟩
  rw [ch2a] at k8 ⊢
  refine awpL_restE (by simp [go_sem]; exact ⟨rfl, rfl⟩) ?_; try dsimp only [thn, inBlk]
  (repeat' first
    | refine AWP.seq ?_
    | refine AWP.block ?_
    | (refine AWP.skip ?_; try dsimp only [thn, inBlk])
    | (refine AWP.exit ?_; try simp only [thn, inBlk, if_true, reduceIte, Nat.reduceEqDiff])
    | (refine AWP.ret ?_; try dsimp only [thn, inBlk])
    | (refine AWP.condT ?_ ?_; (focus (simp [go_sem]; done)))
    | (refine AWP.condF ?_ ?_; (focus (simp [go_sem]; done)))
    | (apply AWP.rE; (focus (simp [go_sem]; exact ⟨rfl, rfl⟩)); try dsimp only [thn, inBlk])
    | fail)
  refine AWP.callE (by simp [go_sem]; exact ⟨rfl, rfl, rfl, rfl, rfl⟩) (by kernel_rfl) ?_
  refine (read_calls (who := annB) (p := dfB) tk56 k8 (by decide)).mono ?_
  rintro r h9 ⟨a9, c9, rfl, k9⟩
  rw [rd56a] at k9 ⊢
  refine awpL_restE (by simp [go_sem]; exact ⟨rfl, rfl⟩) ?_; try dsimp only [thn, inBlk]
  (repeat' first
    | refine AWP.seq ?_
    | refine AWP.block ?_
    | (refine AWP.skip ?_; try dsimp only [thn, inBlk])
    | (refine AWP.exit ?_; try simp only [thn, inBlk, if_true, reduceIte, Nat.reduceEqDiff])
    | (refine AWP.ret ?_; try dsimp only [thn, inBlk])
    | (refine AWP.condT ?_ ?_; (focus (simp [go_sem]; done)))
    | (refine AWP.condF ?_ ?_; (focus (simp [go_sem]; done)))
    | (apply AWP.rE; (focus (simp [go_sem]; exact ⟨rfl, rfl⟩)); try dsimp only [thn, inBlk])
    | fail)
  refine AWP.callE (by simp [go_sem]; exact ⟨rfl, rfl, rfl, rfl, rfl⟩) (by kernel_rfl) ?_
  refine (read_calls (who := bobB) (p := dfB) tk56 k9.b1 (by decide)).mono ?_
  rintro r h10 ⟨a10, c10, rfl, k10⟩
  rw [rd56b] at k10 ⊢
  have s1 := k10.b2.ob_bytes.str (P := Tryd.prog) (t := 22) (e := 5) (u := 9) Tryd.underlying22 Tryd.underlying5 Tryd.underlying9
  have s2 := (hp.of_old hb k10).str (P := Tryd.prog) (t := 22) (e := 5) (u := 9) Tryd.underlying22 Tryd.underlying5 Tryd.underlying9
  refine awpL_restE (by simp [go_sem]; exact ⟨rfl, rfl⟩) ?_; try dsimp only [thn, inBlk]
  (repeat' first
    | refine AWP.seq ?_
    | refine AWP.block ?_
    | (refine AWP.skip ?_; try dsimp only [thn, inBlk])
    | (refine AWP.exit ?_; try simp only [thn, inBlk, if_true, reduceIte, Nat.reduceEqDiff])
    | (refine AWP.ret ?_; try dsimp only [thn, inBlk])
    | (refine AWP.condT ?_ ?_; (focus (simp [go_sem, s1, s2]; done)))
    | (refine AWP.condF ?_ ?_; (focus (simp [go_sem, s1, s2]; done)))
    | (apply AWP.rE; (focus (simp [go_sem, s1, s2]; exact ⟨rfl, rfl⟩)); try dsimp only [thn, inBlk])
    | fail)
  simp [bodyQ, thn, inBlk, resA, resV, go_sem]
end L19
