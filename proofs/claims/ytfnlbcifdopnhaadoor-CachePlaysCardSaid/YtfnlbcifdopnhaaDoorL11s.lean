import Derived.Test.YtfnlbcifdopnhaaDoorL11r
open Go Ab Go.Proofs
namespace L11
set_option autoImplicit false
set_option linter.unusedSimpArgs false
set_option linter.unusedVariables false

theorem bytesLess_lt : ∀ (x y : List UInt8), Op.bytesLess x y = decide (x < y)
  | [], [] => by simp [Op.bytesLess]
  | _ :: _, [] => by simp [Op.bytesLess]
  | [], _ :: _ => by simp [Op.bytesLess]
  | a :: x, b :: y => by
    rw [Op.bytesLess, bytesLess_lt x y]
    simp only [List.cons_lt_cons_iff]
    by_cases h1 : a < b <;> by_cases h2 : a = b <;> by_cases h3 : x < y <;> simp [h1, h2, h3]
theorem strA_lss {a b : List UInt8} : strA .lss ⟨a.toArray⟩ ⟨b.toArray⟩ = some (.bool (decide (a < b))) := by
  simp only [strA, ByteArray.toList_mk, bytesLess_lt]
/-- A record of a flat list is set. -/
theorem flat_setL {sz : Nat} {l : List (List Value)} (hl : ∀ x ∈ l, x.length = sz) {j : Nat} (hj : j < l.length) {rs : List Value} (hr : rs.length = sz) :
    setL l.flatten (j * sz) rs = (l.set j rs).flatten := by
  have e1 : l = l.take j ++ l[j] :: l.drop (j + 1) := by rw [List.getElem_cons_drop, List.take_append_drop]
  have e2 : (l.take j).flatten.length = j * sz := by
    rw [flat_length (fun x hx => hl x (List.mem_of_mem_take hx)), List.length_take]
    rw [Nat.min_eq_left (by omega)]
  have e3 : l[j].length = sz := hl _ (List.getElem_mem hj)
  have e4 : (l.take j).length = j := by rw [List.length_take]; omega
  have e5 : l.flatten = (l.take j).flatten ++ (l[j] ++ (l.drop (j + 1)).flatten) := by
    conv => lhs; rw [e1]
    rw [List.flatten_append, List.flatten_cons]
  have e6 : l.set j rs = l.take j ++ rs :: l.drop (j + 1) := by
    rw [List.set_eq_take_append_cons_drop, if_pos hj]
  rw [setL_eq _ _ _ (by rw [e5]; simp only [List.length_append]; omega), e6, List.flatten_append, List.flatten_cons, e5]
  rw [List.take_append_of_le_length (by omega), List.take_of_length_le (by omega)]
  have e7 : j * sz + rs.length = (l.take j).flatten.length + l[j].length := by omega
  rw [e7, List.append_assoc, ← List.append_assoc ((l.take j).flatten) l[j], ← List.length_append, List.drop_left]
/-- What Put of the document does. -/
def keepS (es : List CX) (now : Int) : List CX := es.filter fun x => decide (now ≤ x.1.g.en)
def InsR (K : List CX) (e : CX) (es' : List CX) : Prop := ∃ A B, K = A ++ B ∧ (∀ b ∈ B, e.1.g.sv < b.1.g.sv) ∧ (∀ a, A.getLast? = some a → ¬ e.1.g.sv < a.1.g.sv) ∧ es' = A ++ e :: B
def PutK (K : List CX) (e : CX) (z : Int) (es' : List CX) : Prop := match idxE K e.1.g.sv with
  | some j => z = 0 ∧ es' = K.set j e
  | none => if 8 ≤ K.length then z = 2 ∧ es' = K else z = 0 ∧ InsR K e es'
def PutS (es : List CX) (e : CX) (now : Int) (z : Int) (es' : List CX) : Prop :=
  if goodC e.1 = false then z = 1 ∧ es' = es else if e.1.g.en < now then z = 63 ∧ es' = es else PutK (keepS es now) e z es'
section
variable {O : Old} {h : AHeap} {R : List Chunk} {i : Nat} {es : List CX}
theorem rlasts_calls {st en fl : Int} :
    ACalls Tryd.prog 40 #[.int .i64 st, .int .i64 en, .int .i64 fl] h fun r h' => r = .bool (lastsB st en fl) ∧ h' = h := by
  refine ACalls.of_awp (args := [.int .i64 st, .int .i64 en, .int .i64 fl]) (n := 26) Tryd.func40 rfl rfl (by show 3 ≤ 26; omega) ?_
  by_cases h1 : 0 ≤ st
  rotate_left
  · have e : lastsB st en fl = false := by simp [lastsB, h1]
    rw [e]
    (repeat' first
      | refine AWP.seq ?_
      | refine AWP.block ?_
      | (refine AWP.skip ?_; try dsimp only [thn, inBlk])
      | (refine AWP.exit ?_; try simp only [thn, inBlk, if_true, reduceIte, Nat.reduceEqDiff])
      | (refine AWP.ret ?_; try dsimp only [thn, inBlk])
      | (refine AWP.condT ?_ ?_; (focus (simp [go_sem, h1]; done)))
      | (refine AWP.condF ?_ ?_; (focus (simp [go_sem, h1]; done)))
      | (apply AWP.rE; (focus (simp [go_sem, h1]; exact ⟨rfl, rfl⟩)); try dsimp only [thn, inBlk])
      | fail)
    simp [bodyQ, thn, inBlk, resA, resV, go_sem]
  by_cases h2 : st ≤ en
  rotate_left
  · have e : lastsB st en fl = false := by simp [lastsB, h2]
    rw [e]
    (repeat' first
      | refine AWP.seq ?_
      | refine AWP.block ?_
      | (refine AWP.skip ?_; try dsimp only [thn, inBlk])
      | (refine AWP.exit ?_; try simp only [thn, inBlk, if_true, reduceIte, Nat.reduceEqDiff])
      | (refine AWP.ret ?_; try dsimp only [thn, inBlk])
      | (refine AWP.condT ?_ ?_; (focus (simp [go_sem, h1, h2]; done)))
      | (refine AWP.condF ?_ ?_; (focus (simp [go_sem, h1, h2]; done)))
      | (apply AWP.rE; (focus (simp [go_sem, h1, h2]; exact ⟨rfl, rfl⟩)); try dsimp only [thn, inBlk])
      | fail)
    simp [bodyQ, thn, inBlk, resA, resV, go_sem]
  by_cases h3 : en ≤ 1099511627776
  rotate_left
  · have e : lastsB st en fl = false := by simp [lastsB, h3]
    rw [e]
    (repeat' first
      | refine AWP.seq ?_
      | refine AWP.block ?_
      | (refine AWP.skip ?_; try dsimp only [thn, inBlk])
      | (refine AWP.exit ?_; try simp only [thn, inBlk, if_true, reduceIte, Nat.reduceEqDiff])
      | (refine AWP.ret ?_; try dsimp only [thn, inBlk])
      | (refine AWP.condT ?_ ?_; (focus (simp [go_sem, h1, h2, h3]; done)))
      | (refine AWP.condF ?_ ?_; (focus (simp [go_sem, h1, h2, h3]; done)))
      | (apply AWP.rE; (focus (simp [go_sem, h1, h2, h3]; exact ⟨rfl, rfl⟩)); try dsimp only [thn, inBlk])
      | fail)
    simp [bodyQ, thn, inBlk, resA, resV, go_sem]
  by_cases h4 : 0 ≤ fl
  rotate_left
  · have e : lastsB st en fl = false := by simp [lastsB, h4]
    rw [e]
    (repeat' first
      | refine AWP.seq ?_
      | refine AWP.block ?_
      | (refine AWP.skip ?_; try dsimp only [thn, inBlk])
      | (refine AWP.exit ?_; try simp only [thn, inBlk, if_true, reduceIte, Nat.reduceEqDiff])
      | (refine AWP.ret ?_; try dsimp only [thn, inBlk])
      | (refine AWP.condT ?_ ?_; (focus (simp [go_sem, h1, h2, h3, h4]; done)))
      | (refine AWP.condF ?_ ?_; (focus (simp [go_sem, h1, h2, h3, h4]; done)))
      | (apply AWP.rE; (focus (simp [go_sem, h1, h2, h3, h4]; exact ⟨rfl, rfl⟩)); try dsimp only [thn, inBlk])
      | fail)
    simp [bodyQ, thn, inBlk, resA, resV, go_sem]
  have e : lastsB st en fl = decide (fl ≤ 3) := by simp [lastsB, h1, h2, h3, h4]
  rw [e]
  (repeat' first
    | refine AWP.seq ?_
    | refine AWP.block ?_
    | (refine AWP.skip ?_; try dsimp only [thn, inBlk])
    | (refine AWP.exit ?_; try simp only [thn, inBlk, if_true, reduceIte, Nat.reduceEqDiff])
    | (refine AWP.ret ?_; try dsimp only [thn, inBlk])
    | (refine AWP.condT ?_ ?_; (focus (simp [go_sem, h1, h2, h3, h4]; done)))
    | (refine AWP.condF ?_ ?_; (focus (simp [go_sem, h1, h2, h3, h4]; done)))
    | (apply AWP.rE; (focus (simp [go_sem, h1, h2, h3, h4]; exact ⟨rfl, rfl⟩)); try dsimp only [thn, inBlk])
    | fail)
  simp [bodyQ, thn, inBlk, resA, resV, go_sem]
theorem rgrant_calls {g : Gt} (k : Own O h R) (hm : g.sv.length ≤ 60000) :
    ACalls Tryd.prog 26 #[grV g] h fun r h' => r = .bool (grantB g) ∧ Own O h' R := by
  refine ACalls.of_awp (args := [grV g]) (n := 15) Tryd.func26 rfl rfl (by show 1 ≤ 15; omega) ?_
  have k1 := k.push (.row (gr g) 32 21 true false)
  have c1 := k1.obj
  (repeat' first
    | refine AWP.seq ?_
    | refine AWP.block ?_
    | (refine AWP.skip ?_; try dsimp only [thn, inBlk])
    | (refine AWP.exit ?_; try simp only [thn, inBlk, if_true, reduceIte, Nat.reduceEqDiff])
    | (refine AWP.ret ?_; try dsimp only [thn, inBlk])
    | (refine AWP.condT ?_ ?_; (focus (simp [go_sem]; done)))
    | (refine AWP.condF ?_ ?_; (focus (simp [go_sem]; done)))
    | (apply AWP.rE; (focus (simp [go_sem]; exact ⟨rfl, rfl⟩)); try dsimp only [thn, inBlk])
    | fail)
  refine AWP.callE (by simp [go_sem, c1]; exact ⟨rfl, rfl, rfl, rfl, rfl⟩) (by kernel_rfl) ?_
  refine (rnamed_calls (l := g.sv) k1 (by omega)).mono ?_
  rintro r h2 ⟨rfl, k2⟩
  have c2 := k2.obj
  cases hnb : nameB g.sv
  · have e : grantB g = false := by simp [grantB, hnb]
    rw [e]
    refine awpL_restE (by simp [go_sem, c2]; exact ⟨rfl, rfl⟩) ?_; try dsimp only [thn, inBlk]
    (repeat' first
      | refine AWP.seq ?_
      | refine AWP.block ?_
      | (refine AWP.skip ?_; try dsimp only [thn, inBlk])
      | (refine AWP.exit ?_; try simp only [thn, inBlk, if_true, reduceIte, Nat.reduceEqDiff])
      | (refine AWP.ret ?_; try dsimp only [thn, inBlk])
      | (refine AWP.condT ?_ ?_; (focus (simp [go_sem]; done)))
      | (refine AWP.condF ?_ ?_; (focus (simp [go_sem]; done)))
      | (apply AWP.rE; (focus (simp [go_sem]; exact ⟨rfl, rfl⟩)); try dsimp only [thn, inBlk])
      | fail)
    simp [bodyQ, thn, inBlk, resA, resV, go_sem]
    exact k2.tail
  refine awpL_toCall (by simp [go_sem, c2]; exact ⟨rfl, rfl, rfl, rfl, rfl⟩) (by kernel_rfl) ?_
  refine (rlasts_calls (st := g.st) (en := g.en) (fl := g.fl)).mono ?_
  rintro r h3 ⟨rfl, rfl⟩
  have e : grantB g = lastsB g.st g.en g.fl := by simp [grantB, hnb]
  rw [e]
  refine awpL_restE (by simp [go_sem, c2]; exact ⟨rfl, rfl⟩) ?_; try dsimp only [thn, inBlk]
  (repeat' first
    | refine AWP.seq ?_
    | refine AWP.block ?_
    | (refine AWP.skip ?_; try dsimp only [thn, inBlk])
    | (refine AWP.exit ?_; try simp only [thn, inBlk, if_true, reduceIte, Nat.reduceEqDiff])
    | (refine AWP.ret ?_; try dsimp only [thn, inBlk])
    | (refine AWP.condT ?_ ?_; (focus (simp [go_sem]; done)))
    | (refine AWP.condF ?_ ?_; (focus (simp [go_sem]; done)))
    | (apply AWP.rE; (focus (simp [go_sem]; exact ⟨rfl, rfl⟩)); try dsimp only [thn, inBlk])
    | fail)
  simp [bodyQ, thn, inBlk, resA, resV, go_sem]
  exact k2.tail
end
end L11
