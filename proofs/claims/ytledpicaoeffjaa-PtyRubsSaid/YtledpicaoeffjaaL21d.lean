import Derived.Test.YtledpicaoeffjaaL21c
open Go Ab Go.Proofs
namespace L21
set_option autoImplicit false
set_option linter.unusedSimpArgs false
set_option linter.unusedVariables false

theorem speaks_calls {O : Old} {h : AHeap} {R : List Chunk} (k : Own O h R) : ACalls Try.prog 7 #[] h fun r h' => r = .bool true ∧ Own O h' R := by
  refine ACalls.of_awp (args := []) (n := 22) Try.func7 rfl rfl (by show 0 ≤ 22; omega) ?_
  (repeat' first
    | refine AWP.seq ?_
    | refine AWP.block ?_
    | (refine AWP.skip ?_; try dsimp only [thn, inBlk])
    | (refine AWP.exit ?_; try simp only [thn, inBlk, if_true])
    | (refine AWP.ret ?_; try dsimp only [thn, inBlk])
    | (refine AWP.condT ?_ ?_; (focus (simp [go_sem]; done)))
    | (refine AWP.condF ?_ ?_; (focus (simp [go_sem]; done)))
    | (apply AWP.rE; (focus (simp [go_sem]; exact ⟨rfl, rfl⟩)); try dsimp only [thn, inBlk])
    | fail)
  refine AWP.callE (by simp [go_sem]; exact ⟨rfl, rfl, rfl, rfl, rfl⟩) (by kernel_rfl) ?_
  refine (new_calls k).mono ?_
  rintro r h1 ⟨i, rfl, k1⟩
  refine awpL_restE (by simp [go_sem]; exact ⟨rfl, rfl⟩) ?_; try dsimp only [thn, inBlk]
  (repeat' first
    | refine AWP.seq ?_
    | refine AWP.block ?_
    | (refine AWP.skip ?_; try dsimp only [thn, inBlk])
    | (refine AWP.exit ?_; try simp only [thn, inBlk, if_true])
    | (refine AWP.ret ?_; try dsimp only [thn, inBlk])
    | (refine AWP.condT ?_ ?_; (focus (simp [go_sem]; done)))
    | (refine AWP.condF ?_ ?_; (focus (simp [go_sem]; done)))
    | (apply AWP.rE; (focus (simp [go_sem]; exact ⟨rfl, rfl⟩)); try dsimp only [thn, inBlk])
    | fail)
  have k2 := k1.push (.row [.int .u8 108, .int .u8 115, .int .u8 120, .int .u8 127, .int .u8 13] 5 1 true false)
  have hb1 := k1.ble
  refine AWP.callE (by simp [go_sem, strR, convS, hb1]; exact ⟨rfl, rfl, rfl, rfl, rfl⟩) (by kernel_rfl) ?_
  refine (feed_calls (n := 0) (bs := [108, 115, 120, 127, 13]) k2.b1 (fun h k => row_bytes k rfl) ⟨by simp, by simp, by simp, by simp⟩ (by simp)).mono ?_
  rintro r h2 ⟨vl, aw, cw, an, cn, rfl, k3⟩
  have ef : Pt.feed [108, 115, 120, 127, 13] ⟨[], false, 0, [], []⟩ = ⟨[], true, 0, [108, 115, 120, 8, 32, 8, 13, 10], [[108, 115]]⟩ := by kernel_rfl
  rw [ef] at k3 ⊢
  have k3 : Own O h2 (cell i (prow vl true 0 (.slice aw 8 cw) (.slice an 1 cn)) :: ob 5 vl [] :: ob 5 (.slice aw 8 cw) [108, 115, 120, 8, 32, 8, 13, 10] :: os 9 1 (.slice an 1 cn) 1 [T [108, 115]] :: _ :: R) := k3
  refine awpL_restE (by simp [go_sem]; exact ⟨rfl, rfl⟩) ?_; try dsimp only [thn, inBlk]
  (repeat' first
    | refine AWP.seq ?_
    | refine AWP.block ?_
    | (refine AWP.skip ?_; try dsimp only [thn, inBlk])
    | (refine AWP.exit ?_; try simp only [thn, inBlk, if_true])
    | (refine AWP.ret ?_; try dsimp only [thn, inBlk])
    | (refine AWP.condT ?_ ?_; (focus (simp [go_sem]; done)))
    | (refine AWP.condF ?_ ?_; (focus (simp [go_sem]; done)))
    | (apply AWP.rE; (focus (simp [go_sem]; exact ⟨rfl, rfl⟩)); try dsimp only [thn, inBlk])
    | fail)
  have sr := k3.b2.ob_bytes.str (P := Try.prog) (t := 25) (e := 5) (u := 9) Try.underlying25 Try.underlying5 Try.underlying9
  have k4 := k3.push (.row [T [108, 115]] 9 1 true false)
  refine AWP.callE (by simp [go_sem, sr]; exact ⟨rfl, rfl, rfl, rfl, rfl⟩) (by kernel_rfl) ?_
  refine (same_calls (xs := [[108, 115]]) (ys := [[108, 115]]) k4.b4.os_sl (k4.row_any (n := 1) rfl).os_sl (by simp)).mono ?_
  rintro r h3 ⟨rfl, rfl⟩
  refine awpL_restE (by simp [go_sem]; exact ⟨rfl, rfl⟩) ?_; try dsimp only [thn, inBlk]
  (repeat' first
    | refine AWP.seq ?_
    | refine AWP.block ?_
    | (refine AWP.skip ?_; try dsimp only [thn, inBlk])
    | (refine AWP.exit ?_; try simp only [thn, inBlk, if_true])
    | (refine AWP.ret ?_; try dsimp only [thn, inBlk])
    | (refine AWP.condT ?_ ?_; (focus (simp [go_sem]; done)))
    | (refine AWP.condF ?_ ?_; (focus (simp [go_sem]; done)))
    | (apply AWP.rE; (focus (simp [go_sem]; exact ⟨rfl, rfl⟩)); try dsimp only [thn, inBlk])
    | fail)
  simp [bodyQ, thn, inBlk, resA, resV, go_sem]
  exact k4.tail.tail.tail.tail.tail.tail

theorem great_calls {h : AHeap} {v : Value} {ps : List (List UInt8)} (hp : Pcs h v ps) (hl : ps.length ≤ 9223372036854775807) :
    ACalls Try.prog 12 #[v] h fun r h' => ∃ b, r = .bool b ∧ h' = h ∧ (b = false → (ps.flatten).length ≤ 2000) := by
  obtain ⟨va, vc, rfl⟩ := hp.val
  refine ACalls.of_awp (args := [.slice va ps.length vc]) (n := 31) Try.func12 rfl rfl (by show 1 ≤ 31; omega) ?_
  (repeat' first
    | refine AWP.seq ?_
    | refine AWP.block ?_
    | (refine AWP.skip ?_; try dsimp only [thn, inBlk])
    | (refine AWP.exit ?_; try simp only [thn, inBlk, if_true])
    | (refine AWP.ret ?_; try dsimp only [thn, inBlk])
    | (refine AWP.condT ?_ ?_; (focus (simp [go_sem]; done)))
    | (refine AWP.condF ?_ ?_; (focus (simp [go_sem]; done)))
    | (apply AWP.rE; (focus (simp [go_sem]; exact ⟨rfl, rfl⟩)); try dsimp only [thn, inBlk])
    | fail)
  refine AWP.loopR [0, 3, 6, 7, 8] (fun m s' h' => ∃ j : Nat, j ≤ ps.length ∧ m = ps.length - j ∧ h' = h ∧ ((ps.take j).flatten).length ≤ 4000 ∧
    s' = ⟨31, [(0, .slice va ps.length vc), (3, .int .i64 ((ps.take j).flatten).length), (6, .slice va ps.length vc), (7, .int .i64 ps.length), (8, .int .i64 j)]⟩) ?_ ?_
  · exact ⟨_, 0, by omega, rfl, rfl, by simp, by simp [go_sem]⟩
  · rintro m s' h' ⟨j, hj, rfl, rfl, hs, rfl⟩
    by_cases hj2 : j < ps.length
    · have hj3 : (j : Int) < ps.length := by omega
      obtain ⟨bi, bo, c, e', sz, ti, ro, a, cap, q1, q2, q3, q4⟩ := hp.at (P := Try.prog) (t := 33) Try.underlying33 tsz25 hj2 (kd := .i64)
      have w1 : IntKind.i64.wrap ((j : Int) + 1) = j + 1 := wI64 (by omega) (by omega)
      by_cases h1 : 2000 < ps[j].length
      · have h1' : (2000 : Int) < ps[j].length := by omega
        (repeat' first
          | refine AWP.seq ?_
          | refine AWP.block ?_
          | (refine AWP.skip ?_; try dsimp only [thn, inBlk])
          | (refine AWP.exit ?_; try simp only [thn, inBlk, if_true])
          | (refine AWP.ret ?_; try dsimp only [thn, inBlk])
          | (refine AWP.condT ?_ ?_; (focus (simp [go_sem, hj3, q1, q2, q3, h1']; done)))
          | (refine AWP.condF ?_ ?_; (focus (simp [go_sem, hj3, q1, q2, q3, h1']; done)))
          | (apply AWP.rE; (focus (simp [go_sem, hj3, q1, q2, q3, h1']; exact ⟨rfl, rfl⟩)); try dsimp only [thn, inBlk])
          | fail)
        simp [bodyQ, thn, inBlk, resA, resV, go_sem]
      have h1' : ¬ (2000 : Int) < ps[j].length := by omega
      by_cases h2 : 2000 < ((ps.take j).flatten).length
      · have h2' : (2000 : Int) < ((ps.take j).flatten).length := by omega
        generalize ((ps.take j).flatten).length = fl at *
        (repeat' first
          | refine AWP.seq ?_
          | refine AWP.block ?_
          | (refine AWP.skip ?_; try dsimp only [thn, inBlk])
          | (refine AWP.exit ?_; try simp only [thn, inBlk, if_true])
          | (refine AWP.ret ?_; try dsimp only [thn, inBlk])
          | (refine AWP.condT ?_ ?_; (focus (simp [go_sem, hj3, q1, q2, q3, h1', h2']; done)))
          | (refine AWP.condF ?_ ?_; (focus (simp [go_sem, hj3, q1, q2, q3, h1', h2']; done)))
          | (apply AWP.rE; (focus (simp [go_sem, hj3, q1, q2, q3, h1', h2']; exact ⟨rfl, rfl⟩)); try dsimp only [thn, inBlk])
          | fail)
        simp [bodyQ, thn, inBlk, resA, resV, go_sem]
      have h2' : ¬ (2000 : Int) < ((ps.take j).flatten).length := by omega
      by_cases h3 : 100 < ps.length
      · have h3' : (100 : Int) < ps.length := by omega
        generalize ((ps.take j).flatten).length = fl at *
        (repeat' first
          | refine AWP.seq ?_
          | refine AWP.block ?_
          | (refine AWP.skip ?_; try dsimp only [thn, inBlk])
          | (refine AWP.exit ?_; try simp only [thn, inBlk, if_true])
          | (refine AWP.ret ?_; try dsimp only [thn, inBlk])
          | (refine AWP.condT ?_ ?_; (focus (simp [go_sem, hj3, q1, q2, q3, h1', h2', h3']; done)))
          | (refine AWP.condF ?_ ?_; (focus (simp [go_sem, hj3, q1, q2, q3, h1', h2', h3']; done)))
          | (apply AWP.rE; (focus (simp [go_sem, hj3, q1, q2, q3, h1', h2', h3']; exact ⟨rfl, rfl⟩)); try dsimp only [thn, inBlk])
          | fail)
        simp [bodyQ, thn, inBlk, resA, resV, go_sem]
      have h3' : ¬ (100 : Int) < ps.length := by omega
      have hfl : ((ps.take (j + 1)).flatten).length = ((ps.take j).flatten).length + ps[j].length := by
        rw [List.take_succ_eq_append_getElem hj2, List.flatten_append, List.length_append]; simp
      have w2 : IntKind.i64.wrap ((((ps.take j).flatten).length : Int) + ps[j].length) = ((ps.take j).flatten).length + ps[j].length := wI64 (by omega) (by omega)
      generalize hg : ((ps.take j).flatten).length = fl at *
      (repeat' first
        | refine AWP.seq ?_
        | refine AWP.block ?_
        | (refine AWP.skip ?_; try dsimp only [thn, inBlk])
        | (refine AWP.exit ?_; try simp only [thn, inBlk, if_true])
        | (refine AWP.ret ?_; try dsimp only [thn, inBlk])
        | (refine AWP.condT ?_ ?_; (focus (simp [go_sem, hj3, q1, q2, q3, h1', h2', h3', w1, w2]; done)))
        | (refine AWP.condF ?_ ?_; (focus (simp [go_sem, hj3, q1, q2, q3, h1', h2', h3', w1, w2]; done)))
        | (apply AWP.rE; (focus (simp [go_sem, hj3, q1, q2, q3, h1', h2', h3', w1, w2]; exact ⟨rfl, rfl⟩)); try dsimp only [thn, inBlk])
        | fail)
      refine ⟨ps.length - (j + 1), by omega, j + 1, by omega, rfl, rfl, by omega, ?_⟩
      rw [hfl]
      simp [go_sem]
    · have hj3 : ¬ (j : Int) < ps.length := by omega
      obtain rfl : j = ps.length := by omega
      rw [List.take_length] at hs ⊢
      generalize hg : ps.flatten.length = fl at *
      (repeat' first
        | refine AWP.seq ?_
        | refine AWP.block ?_
        | (refine AWP.skip ?_; try dsimp only [thn, inBlk])
        | (refine AWP.exit ?_; try simp only [thn, inBlk, if_true])
        | (refine AWP.ret ?_; try dsimp only [thn, inBlk])
        | (refine AWP.condT ?_ ?_; (focus (simp [go_sem, hj3]; done)))
        | (refine AWP.condF ?_ ?_; (focus (simp [go_sem, hj3]; done)))
        | (apply AWP.rE; (focus (simp [go_sem, hj3]; exact ⟨rfl, rfl⟩)); try dsimp only [thn, inBlk])
        | fail)
      simp [bodyQ, thn, inBlk, resA, resV, go_sem]
      intro h
      omega
end L21
