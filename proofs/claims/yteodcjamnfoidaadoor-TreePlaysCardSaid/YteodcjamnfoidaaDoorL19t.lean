import Derived.Test.YteodcjamnfoidaaDoorL19s
import Derived.Test.YteodcjamnfoidaaDoorAbLibE
open Go Ab Go.Proofs
namespace L19
set_option autoImplicit false
set_option linter.unusedSimpArgs false
set_option linter.unusedVariables false

/-! ### Nodes -/
theorem keys_calls {h : AHeap} {m : Nat} : ACalls Tryd.prog 38 #[.map (some m)] h fun r h' => r = .func (.func 61) #[] #[ptr h.next] ∧ h' = h.push (.row [.map (some m)] 60 1 true false) := by
  refine ACalls.of_awp (args := [.map (some m)]) (n := 4) Tryd.func38 rfl rfl (by show 1 ≤ 4; omega) ?_
  (repeat' first
    | refine AWP.seq ?_
    | refine AWP.block ?_
    | (refine AWP.skip ?_; try dsimp only [thn, inBlk])
    | (refine AWP.exit ?_; try simp only [thn, inBlk, if_true, reduceIte, Nat.reduceEqDiff])
    | (refine AWP.ret ?_; try dsimp only [thn, inBlk])
    | (refine AWP.condT ?_ ?_; (focus (simp [go_sem]; done)))
    | (refine AWP.condF ?_ ?_; (focus (simp [go_sem]; done)))
    | (apply AWP.rE; (focus (simp [go_sem]; exact ⟨rfl, rfl⟩)); try dsimp only [thn, inBlk])
    | fail)
  simp [bodyQ, thn, inBlk, resA, resV, go_sem]
abbrev ncells (x : List UInt8 × Nd) (w : Option Addr × Nat) : List Value := [tx x.1, .bool x.2.dir, tx x.2.own, .int .i64 x.2.mode, .slice w.1 x.2.data.length w.2]
abbrev ndat (x : List UInt8 × Nd) (w : Option Addr × Nat) : Chunk := ob 5 (.slice w.1 x.2.data.length w.2) x.2.data
abbrev nds (v : Value) (xs : TL) : Chunk := grecs ncells ndat 43 5 v xs
section
variable {O : Old} {h : AHeap} {R : List Chunk} {i m : Nat} {T : TL} {ws : List Wd}
set_option maxHeartbeats 4000000 in
theorem copied_calls {x : List UInt8 × Nd} {w : Wd} (k : Own O h R) (ho : ∀ hh, Own O hh R → hh.obj w.1 = some (nrow x w)) (hx : ∀ hh, Own O hh R → Bytes hh (.slice w.2.1 x.2.data.length w.2.2) x.2.data) (hm : x.2.data.length ≤ 1000000) :
    ACalls Tryd.prog 39 #[ptr w.1] h fun r h' => ∃ a cap, r = .agg (ncells x (a, cap)).toArray ∧ Own O h' (ndat x (a, cap) :: R) := by
  refine ACalls.of_awp (args := [ptr w.1]) (n := 14) Tryd.func39 rfl rfl (by show 1 ≤ 14; omega) ?_
  obtain ⟨p, ⟨dir, own, mode, data⟩⟩ := x
  obtain ⟨n, wa, wc⟩ := w
  dsimp only at ho hx hm
  have c0 := ho h k
  obtain ⟨Z, hZ⟩ : ∃ Z, Z = AObj.row [.string ⟨#[]⟩, .bool false, .string ⟨#[]⟩, .int .i64 0, .slice none 0 0] 43 5 true false := ⟨_, rfl⟩
  have k1 := k.push Z
  have c1 := ho _ k1.tail
  have k2 : Own O (((h.push Z).push Z).set (h.next + 1) (nrow (p, ⟨dir, own, mode, data⟩) (0, wa, wc))) (cell (h.next + 1) (nrow (p, ⟨dir, own, mode, data⟩) (0, wa, wc)) :: cell h.next Z :: R) := (k1.push Z).set _
  have c2 := ho _ k2.tail.tail
  rw [hZ] at c1 c2 k2
  (repeat' first
    | refine AWP.seq ?_
    | refine AWP.block ?_
    | (refine AWP.skip ?_; try dsimp only [thn, inBlk])
    | (refine AWP.exit ?_; try simp only [thn, inBlk, if_true, reduceIte, Nat.reduceEqDiff])
    | (refine AWP.ret ?_; try dsimp only [thn, inBlk])
    | (refine AWP.condT ?_ ?_; (focus (simp [go_sem, c0, c1]; done)))
    | (refine AWP.condF ?_ ?_; (focus (simp [go_sem, c0, c1]; done)))
    | (apply AWP.rE; (focus (simp [go_sem, c0, c1]; exact ⟨rfl, rfl⟩)); try dsimp only [thn, inBlk])
    | fail)
  refine AWP.callE (by simp [go_sem, c0, c1, c2]; exact ⟨rfl, rfl, rfl, rfl, rfl⟩) (by kernel_rfl) ?_
  refine (clone_calls k2 (fun hh kk => hx hh kk.tail.tail) (by omega)).mono ?_
  rintro r h3 ⟨a3, n3, rfl, k3⟩
  have c3 := k3.b1.obj
  have k4 := k3.b1.set (nrow (p, ⟨dir, own, mode, data⟩) (0, a3, n3))
  have c4 := k4.b2.obj
  have c5 := k4.obj
  have k5 := k4.b2.set (nrow (p, ⟨dir, own, mode, data⟩) (0, a3, n3))
  have c6 := k5.obj
  have c7 := k3.b2.obj
  refine awpL_restE (by simp [go_sem, c3]; exact ⟨rfl, rfl⟩) ?_; try dsimp only [thn, inBlk]
  (repeat' first
    | refine AWP.seq ?_
    | refine AWP.block ?_
    | (refine AWP.skip ?_; try dsimp only [thn, inBlk])
    | (refine AWP.exit ?_; try simp only [thn, inBlk, if_true, reduceIte, Nat.reduceEqDiff])
    | (refine AWP.ret ?_; try dsimp only [thn, inBlk])
    | (refine AWP.condT ?_ ?_; (focus (simp [go_sem, c4, c5, c7]; done)))
    | (refine AWP.condF ?_ ?_; (focus (simp [go_sem, c4, c5, c7]; done)))
    | (apply AWP.rE; (focus (simp [go_sem, c4, c5, c7]; exact ⟨rfl, rfl⟩)); try dsimp only [thn, inBlk])
    | fail)
  simp [bodyQ, thn, inBlk, resA, resV, go_sem, c6]
  exact ⟨a3, n3, ⟨rfl, rfl⟩, k5.tail.tail⟩
end
end L19
