import Derived.Test.YtjjocbijmhmdkaaL18l
open Go Ab Go.Proofs
namespace L18
set_option autoImplicit false
set_option linter.unusedSimpArgs false
set_option linter.unusedVariables false
attribute [local irreducible] mcells

def msk (z : Int) (m : Nat) : Nat := (BitVec.ofInt 64 z &&& BitVec.ofNat 64 m).toNat
theorem msk_le (z : Int) (m : Nat) : msk z m ≤ m := by
  rw [msk, BitVec.toNat_and, BitVec.toNat_ofNat]
  exact Nat.le_trans Nat.and_le_right (Nat.mod_le _ _)
theorem msk_w (z : Int) {m : Nat} (hm : m < 9223372036854775808) : IntKind.i64.wrap ((@BitVec.toNat 64 (@HAnd.hAnd (BitVec 64) (BitVec 64) (BitVec 64) (@instHAndOfAndOp (BitVec IntKind.i64.bits) (@BitVec.instAndOp IntKind.i64.bits)) (BitVec.ofInt 64 z) (BitVec.ofNat 64 m)) : Nat) : Int) = ((msk z m : Nat) : Int) :=
  wI64 (by omega) (Int.le_trans (Int.ofNat_le.2 (msk_le z m)) (by omega))
abbrev opV (o : Op) (a : Option Addr) (cap : Nat) : Value := .agg (orow o a cap).toArray
def szO (o : Op) : Nat := msk o.1.size 8191
theorem szO_le (o : Op) : szO o ≤ 8191 := msk_le _ _
theorem size_calls {O : Old} {h : AHeap} {R : List Chunk} (k : Own O h R) (o : Op) {a : Option Addr} {cap : Nat} :
    ACalls Try.prog 12 #[opV o a cap] h fun r h' => r = .int .i64 (szO o) ∧ Own O h' R := by
  refine ACalls.of_awp (args := [opV o a cap]) (n := 6) Try.func12 rfl rfl (by show 1 ≤ 6; omega) ?_
  have k1 := k.push (.row (orow o a cap) 32 6 true false)
  have c1 := k1.obj
  have w := msk_w o.1.size (m := 8191) (by omega)
  rw [show msk o.1.size 8191 = szO o from rfl] at w
  (repeat' first
    | refine AWP.seq ?_
    | refine AWP.block ?_
    | (refine AWP.skip ?_; try dsimp only [thn, inBlk])
    | (refine AWP.exit ?_; try simp only [thn, inBlk, if_true, reduceIte, Nat.reduceEqDiff])
    | (refine AWP.ret ?_; try dsimp only [thn, inBlk])
    | (refine AWP.condT ?_ ?_; (focus (simp [go_sem, c1, w]; done)))
    | (refine AWP.condF ?_ ?_; (focus (simp [go_sem, c1, w]; done)))
    | (apply AWP.rE; (focus (simp [go_sem, c1, w]; exact ⟨rfl, rfl⟩)); try dsimp only [thn, inBlk])
    | fail)
  simp [bodyQ, thn, inBlk, resA, resV, go_sem]
  exact k1.tail
def big (l : List Op) : Bool := decide (80 < l.length) || l.any fun o => decide (2000 < o.2.length)
theorem great_calls {h0 h : AHeap} {R : List Chunk} {v : Value} {l : List Op} (hb : h0.base = h0.next) (hv : BR preO 6 h0 v l) (k : Own h0.asOld h R) (hl : l.length ≤ 9223372036854775807) :
    ACalls Try.prog 8 #[v] h fun r h' => r = .bool (big l) ∧ Own h0.asOld h' R := by
  obtain ⟨va, vc, rfl⟩ := hv.val
  refine ACalls.of_awp (args := [.slice va l.length vc]) (n := 20) Try.func8 rfl rfl (by show 1 ≤ 20; omega) ?_
  by_cases h80 : 80 < l.length
  · have h80' : (80 : Int) < l.length := by omega
    have e : big l = true := by simp [big, h80]
    rw [e]
    (repeat' first
      | refine AWP.seq ?_
      | refine AWP.block ?_
      | (refine AWP.skip ?_; try dsimp only [thn, inBlk])
      | (refine AWP.exit ?_; try simp only [thn, inBlk, if_true, reduceIte, Nat.reduceEqDiff])
      | (refine AWP.ret ?_; try dsimp only [thn, inBlk])
      | (refine AWP.condT ?_ ?_; (focus (simp [go_sem, h80']; done)))
      | (refine AWP.condF ?_ ?_; (focus (simp [go_sem, h80']; done)))
      | (apply AWP.rE; (focus (simp [go_sem, h80']; exact ⟨rfl, rfl⟩)); try dsimp only [thn, inBlk])
      | fail)
    simp [bodyQ, thn, inBlk, resA, resV, go_sem]
    exact k
  have h80' : ¬ (80 : Int) < l.length := by omega
  have e : big l = l.any fun o => decide (2000 < o.2.length) := by simp [big, h80]
  rw [e]
  (repeat' first
    | refine AWP.seq ?_
    | refine AWP.block ?_
    | (refine AWP.skip ?_; try dsimp only [thn, inBlk])
    | (refine AWP.exit ?_; try simp only [thn, inBlk, if_true, reduceIte, Nat.reduceEqDiff])
    | (refine AWP.ret ?_; try dsimp only [thn, inBlk])
    | (refine AWP.condT ?_ ?_; (focus (simp [go_sem, h80']; done)))
    | (refine AWP.condF ?_ ?_; (focus (simp [go_sem, h80']; done)))
    | (apply AWP.rE; (focus (simp [go_sem, h80']; exact ⟨rfl, rfl⟩)); try dsimp only [thn, inBlk])
    | fail)
  refine AWP.loopR [8, 9, 10] (fun m s h' => ∃ j, j ≤ l.length ∧ m = l.length - j ∧ s = ⟨20, [(8, .slice va l.length vc), (9, .int .i64 l.length), (10, .int .i64 (j : Nat))]⟩ ∧ (l.any fun o => decide (2000 < o.2.length)) = ((l.drop j).any fun o => decide (2000 < o.2.length)) ∧ Own h0.asOld h' R) ?_ ?_
  · exact ⟨_, 0, by omega, rfl, by simp [go_sem], rfl, k⟩
  rintro m s h' ⟨j, hj, rfl, rfl, hd, kt⟩
  by_cases hj2 : j < l.length
  rotate_left
  · have hj3 : ¬ (j : Int) < l.length := by omega
    rw [List.drop_of_length_le (by omega)] at hd
    rw [hd]
    (repeat' first
      | refine AWP.seq ?_
      | refine AWP.block ?_
      | (refine AWP.skip ?_; try dsimp only [thn, inBlk])
      | (refine AWP.exit ?_; try simp only [thn, inBlk, if_true, reduceIte, Nat.reduceEqDiff])
      | (refine AWP.ret ?_; try dsimp only [thn, inBlk])
      | (refine AWP.condT ?_ ?_; (focus (simp [go_sem, hj3]; done)))
      | (refine AWP.condF ?_ ?_; (focus (simp [go_sem, hj3]; done)))
      | (apply AWP.rE; (focus (simp [go_sem, hj3]; exact ⟨rfl, rfl⟩)); try dsimp only [thn, inBlk])
      | fail)
    simp [bodyQ, thn, inBlk, resA, resV, go_sem]
    exact kt
  have hj3 : (j : Int) < l.length := by omega
  obtain ⟨j1, hj1⟩ : ∃ j1, j1 = j + 1 := ⟨_, rfl⟩
  have wj : IntKind.i64.wrap ((j : Int) + 1) = (j1 : Int) := by rw [wI64 (by omega) (by omega)]; omega
  obtain ⟨oi, oo, oc, oe, osz, oti, oro, oa, ocap, p1, p2, p3, p4, p5⟩ := op_at (hv.of_old hb kt) hj2 (kd := .i64)
  have k1 := kt.push (.row (orow l[j] oa ocap) 32 6 true false)
  have c1 := k1.obj
  rw [List.drop_eq_getElem_cons hj2, List.any_cons] at hd
  by_cases hbig : 2000 < l[j].2.length
  · have hbig' : (2000 : Int) < l[j].2.length := by omega
    have e : (l.any fun o => decide (2000 < o.2.length)) = true := by rw [hd]; simp [hbig]
    rw [e]
    (repeat' first
      | refine AWP.seq ?_
      | refine AWP.block ?_
      | (refine AWP.skip ?_; try dsimp only [thn, inBlk])
      | (refine AWP.exit ?_; try simp only [thn, inBlk, if_true, reduceIte, Nat.reduceEqDiff])
      | (refine AWP.ret ?_; try dsimp only [thn, inBlk])
      | (refine AWP.condT ?_ ?_; (focus (simp [go_sem, hj3, p1, p2, p3, p4, c1, hbig']; done)))
      | (refine AWP.condF ?_ ?_; (focus (simp [go_sem, hj3, p1, p2, p3, p4, c1, hbig']; done)))
      | (apply AWP.rE; (focus (simp [go_sem, hj3, p1, p2, p3, p4, c1, hbig']; exact ⟨rfl, rfl⟩)); try dsimp only [thn, inBlk])
      | fail)
    simp [bodyQ, thn, inBlk, resA, resV, go_sem]
    exact k1.tail
  · have hbig' : ¬ (2000 : Int) < l[j].2.length := by omega
    rw [show decide (2000 < l[j].2.length) = false by simpa using hbig, Bool.false_or] at hd
    (repeat' first
      | refine AWP.seq ?_
      | refine AWP.block ?_
      | (refine AWP.skip ?_; try dsimp only [thn, inBlk])
      | (refine AWP.exit ?_; try simp only [thn, inBlk, if_true, reduceIte, Nat.reduceEqDiff])
      | (refine AWP.ret ?_; try dsimp only [thn, inBlk])
      | (refine AWP.condT ?_ ?_; (focus (simp [go_sem, hj3, p1, p2, p3, p4, c1, hbig', wj]; done)))
      | (refine AWP.condF ?_ ?_; (focus (simp [go_sem, hj3, p1, p2, p3, p4, c1, hbig', wj]; done)))
      | (apply AWP.rE; (focus (simp [go_sem, hj3, p1, p2, p3, p4, c1, hbig', wj]; exact ⟨rfl, rfl⟩)); try dsimp only [thn, inBlk])
      | fail)
    exact ⟨l.length - j1, by omega, j1, by omega, rfl, by simp [go_sem], by rw [hj1]; exact hd, k1.tail⟩
end L18
