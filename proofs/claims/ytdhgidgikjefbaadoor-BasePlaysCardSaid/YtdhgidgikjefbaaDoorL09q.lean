import Derived.Test.YtdhgidgikjefbaaDoorL09p
open Go Ab Go.Proofs
namespace L09
set_option autoImplicit false
set_option linter.unusedSimpArgs false
set_option linter.unusedVariables false

theorem bytesLess_lt : ∀ (x y : List UInt8), Op.bytesLess x y = decide (x < y)
  | [], [] => by simp [Op.bytesLess]
  | _ :: _, [] => by simp [Op.bytesLess]
  | [], _ :: _ => by simp [Op.bytesLess]
  | a :: x, b :: y => by
    rw [Op.bytesLess, bytesLess_lt x y]
    simp only [List.cons_lt_cons_iff]
    by_cases h1 : a < b <;> by_cases h2 : a = b <;> by_cases h3 : x < y <;> simp [h1, h2, h3]
theorem lt_trich : ∀ (a b : List UInt8), a < b ∨ a = b ∨ b < a
  | [], [] => .inr (.inl rfl)
  | [], _ :: _ => .inl (by simp)
  | _ :: _, [] => .inr (.inr (by simp))
  | x :: a, y :: b => by
    simp only [List.cons_lt_cons_iff]
    have hx : x < y ∨ x = y ∨ y < x := by
      rcases Nat.lt_trichotomy x.toNat y.toNat with g | g | g
      · exact .inl (UInt8.lt_iff_toNat_lt.2 g)
      · exact .inr (.inl (UInt8.toNat_inj.1 g))
      · exact .inr (.inr (UInt8.lt_iff_toNat_lt.2 g))
    rcases lt_trich a b with h | h | h <;> rcases hx with g | g | g <;> simp [h, g]
theorem strA_gtr {a b : List UInt8} : strA .gtr ⟨a.toArray⟩ ⟨b.toArray⟩ = some (.bool (decide (b < a))) := by
  simp only [strA, ByteArray.toList_mk, bytesLess_lt]
  congr 2
  rcases lt_trich a b with h | h | h
  · have := List.lt_asymm h
    simp [h, this]
  · subst h; simp
  · have h1 := List.lt_asymm h
    have h2 : a ≠ b := by rintro rfl; exact List.lt_irrefl _ h
    simp [h, h1, h2]
/-- A record of a flat list is set. -/
theorem flat_setL {sz : Nat} {l : List (List Value)} (hl : ∀ x ∈ l, x.length = sz) {j : Nat} (hj : j < l.length) {rs : List Value} (hr : rs.length = sz) :
    setL l.flatten (j * sz) rs = (l.set j rs).flatten := by
  have e1 : l = l.take j ++ l[j] :: l.drop (j + 1) := by rw [List.getElem_cons_drop, List.take_append_drop]
  have e2 : (l.take j).flatten.length = j * sz := by
    rw [flat_length (fun x hx => hl x (List.mem_of_mem_take hx)), List.length_take]
    rw [Nat.min_eq_left (by omega)]
  have e3 : l[j].length = sz := hl _ (List.getElem_mem hj)
  have e4 : (l.take j).length = j := by rw [List.length_take]; omega
  have e5 : l.flatten = (l.take j).flatten ++ (l[j] ++ (l.drop (j + 1)).flatten) := by
    conv => lhs; rw [e1]
    rw [List.flatten_append, List.flatten_cons]
  have e6 : l.set j rs = l.take j ++ rs :: l.drop (j + 1) := by
    rw [List.set_eq_take_append_cons_drop, if_pos hj]
  rw [setL_eq _ _ _ (by rw [e5]; simp only [List.length_append]; omega), e6, List.flatten_append, List.flatten_cons, e5]
  rw [List.take_append_of_le_length (by omega), List.take_of_length_le (by omega)]
  have e7 : j * sz + rs.length = (l.take j).flatten.length + l[j].length := by omega
  rw [e7, List.append_assoc, ← List.append_assoc ((l.take j).flatten) l[j], ← List.length_append, List.drop_left]
def insG (e : En) : List En → List En
  | [] => [e]
  | x :: xs => if e.nm < x.nm then e :: x :: xs else x :: insG e xs
def gtA (e : En) (es : List En) : Bool := es.any fun x => decide (e.nm < x.nm)
def outG (e : En) (es : List En) : List En := if gtA e es then insG e es else es
theorem ins_none {e : En} : ∀ {es : List En}, gtA e es = false → insG e es = es ++ [e]
  | [], _ => rfl
  | x :: xs, h => by
    simp only [gtA, List.any_cons, Bool.or_eq_false_iff] at h
    rw [insG, if_neg (by simpa using h.1), ins_none h.2]; rfl
theorem ins_app {e x : En} : ∀ {es : List En}, insG e (es ++ [x]) = if gtA e es then insG e es ++ [x] else if e.nm < x.nm then es ++ [e, x] else es ++ [x, e]
  | [] => by
    simp only [gtA, List.any_nil, List.nil_append, insG]; simp
  | y :: ys => by
    rw [List.cons_append, insG, ins_app (es := ys)]
    by_cases h : e.nm < y.nm
    · simp [gtA, h, insG]
    · simp only [gtA, List.any_cons, h, if_false, insG, decide_false, Bool.false_or]
      by_cases h2 : (ys.any fun x => decide (e.nm < x.nm)) = true
      · simp only [h2, if_true]; rfl
      · simp only [h2]
        by_cases h3 : e.nm < x.nm <;> simp [h3]
theorem gt_app {e x : En} {es : List En} : gtA e (es ++ [x]) = (gtA e es || decide (e.nm < x.nm)) := by simp [gtA]
theorem out_done {e x : En} {es : List En} (h : gtA e es = true) : outG e (es ++ [x]) = outG e es ++ [x] := by
  simp only [outG, gt_app, h, Bool.true_or, if_true, ins_app]
theorem out_now {e x : En} {es : List En} (h : gtA e es = false) (hx : e.nm < x.nm) : outG e (es ++ [x]) = outG e es ++ [e, x] := by
  simp only [outG, gt_app, h, Bool.false_or, hx, decide_true, if_true, ins_app]
  simp
theorem out_not {e x : En} {es : List En} (h : gtA e es = false) (hx : ¬ e.nm < x.nm) : outG e (es ++ [x]) = outG e es ++ [x] := by
  simp only [outG, gt_app, h, Bool.false_or, hx, decide_false]
  simp
theorem insG_len {e : En} : ∀ {es : List En}, (insG e es).length = es.length + 1
  | [] => rfl
  | x :: xs => by
    rw [insG]; split
    · rfl
    · rw [List.length_cons, insG_len, List.length_cons]
theorem outG_len {e : En} {es : List En} : (outG e es).length ≤ es.length + 1 := by
  unfold outG; split
  · rw [insG_len]; omega
  · omega
theorem ens_app {O : Old} {h : AHeap} {R : List Chunk} {v : Value} {l : List En} {x : En} (k : Own O h (os 34 20 v (l.length + 1) ((l.map en).flatten ++ en x) :: R)) : Own O h (ens v (l ++ [x]) :: R) := by
  simpa [ens] using k
def putS (es : List En) (e : En) : Int × List En := if goodE e = false then (1, es) else match idxE es e.nm with
  | some j => (0, es.set j e)
  | none => if 16 ≤ es.length then (2, es) else (0, insG e es)
section
variable {O : Old} {h : AHeap} {R : List Chunk} {i : Nat} {es : List En}
set_option maxHeartbeats 16000000 in
theorem rput_calls {e : En} (k : Own O h (rbs i es :: R)) (hm : es.length ≤ 1000) (hn : e.nm.length ≤ 900000) :
    ACalls Tryd.prog 12 #[ptr i, enV e] h fun r h' => r = .int .i64 (putS es e).1 ∧ Own O h' (rbs i (putS es e).2 :: R) := by
  refine ACalls.of_awp (args := [ptr i, enV e]) (n := 101) Tryd.func12 rfl rfl (by show 2 ≤ 101; omega) ?_
  obtain ⟨v, k0⟩ := rbs_iff.1 k
  have k1 := k0.push (.row (en e) 34 20 true false)
  have c1 := k1.obj
  (repeat' first
    | refine AWP.seq ?_
    | refine AWP.block ?_
    | (refine AWP.skip ?_; try dsimp only [thn, inBlk])
    | (refine AWP.exit ?_; try simp only [thn, inBlk, if_true, reduceIte, Nat.reduceEqDiff])
    | (refine AWP.ret ?_; try dsimp only [thn, inBlk])
    | (refine AWP.condT ?_ ?_; (focus (simp [go_sem]; done)))
    | (refine AWP.condF ?_ ?_; (focus (simp [go_sem]; done)))
    | (apply AWP.rE; (focus (simp [go_sem]; exact ⟨rfl, rfl⟩)); try dsimp only [thn, inBlk])
    | (apply AWP.dE hmix [.n 0 [0], .n 1 [39], .n 2 [40], .n 3 [41], .n 4 [5], .n 5 [3], .n 6 [42, 43], .w 7 [45, 44] []]; (focus kernel_rfl); (focus (simp [go_sem]; exact ⟨rfl, rfl⟩)); try dsimp only [thn, inBlk])
    | (apply AWP.dE hmix [.n 0 [7], .n 1 [62], .n 2 [63], .n 3 [0, 64], .n 4 [65, 64], .n 5 [66, 64], .n 6 [67, 64], .n 7 [8, 64], .n 8 [68, 69, 64], .n 9 [70, 64], .n 10 [71, 64], .n 11 [3, 64], .n 12 [73, 64], .n 13 [72, 74, 64], .n 14 [64, 75]]; (focus kernel_rfl); (focus (simp [go_sem]; exact ⟨rfl, rfl⟩)); try dsimp only [thn, inBlk])
    | fail)
  refine AWP.callE (by simp [go_sem, c1]; exact ⟨rfl, rfl, rfl, rfl, rfl⟩) (by kernel_rfl) ?_
  refine (rnamed_calls (l := e.nm) k1 hn).mono ?_
  rintro r h2 ⟨rfl, k2⟩
  have c2 := k2.obj
  have back : ∀ {hh : AHeap} {A : Chunk}, Own O hh (A :: cell i (rrow v) :: ens v es :: R) → Own O hh (rbs i es :: R) := fun kk => rbs_iff.2 ⟨v, kk.tail⟩
  cases hnb : nameB e.nm
  · have e1 : putS es e = (1, es) := by simp [putS, goodE, hnb]
    rw [e1]
    refine awpL_restE (by simp [go_sem]; exact ⟨rfl, rfl⟩) ?_; try dsimp only [thn, inBlk]
    (repeat' first
      | refine AWP.seq ?_
      | refine AWP.block ?_
      | (refine AWP.skip ?_; try dsimp only [thn, inBlk])
      | (refine AWP.exit ?_; try simp only [thn, inBlk, if_true, reduceIte, Nat.reduceEqDiff])
      | (refine AWP.ret ?_; try dsimp only [thn, inBlk])
      | (refine AWP.condT ?_ ?_; (focus (simp [go_sem, c2]; done)))
      | (refine AWP.condF ?_ ?_; (focus (simp [go_sem, c2]; done)))
      | (apply AWP.rE; (focus (simp [go_sem, c2]; exact ⟨rfl, rfl⟩)); try dsimp only [thn, inBlk])
      | (apply AWP.dE hmix [.n 0 [0], .n 1 [39], .n 2 [40], .n 3 [41], .n 4 [5], .n 5 [3], .n 6 [42, 43], .w 7 [45, 44] []]; (focus kernel_rfl); (focus (simp [go_sem, c2]; exact ⟨rfl, rfl⟩)); try dsimp only [thn, inBlk])
      | (apply AWP.dE hmix [.n 0 [7], .n 1 [62], .n 2 [63], .n 3 [0, 64], .n 4 [65, 64], .n 5 [66, 64], .n 6 [67, 64], .n 7 [8, 64], .n 8 [68, 69, 64], .n 9 [70, 64], .n 10 [71, 64], .n 11 [3, 64], .n 12 [73, 64], .n 13 [72, 74, 64], .n 14 [64, 75]]; (focus kernel_rfl); (focus (simp [go_sem, c2]; exact ⟨rfl, rfl⟩)); try dsimp only [thn, inBlk])
      | fail)
    simp [bodyQ, thn, inBlk, resA, resV, go_sem]
    exact back k2
  by_cases h1 : 1 ≤ e.life
  rotate_left
  · have e1 : putS es e = (1, es) := by simp [putS, goodE, hnb, h1]
    rw [e1]
    have h1' : e.life < 1 := by omega
    refine awpL_restE (by simp [go_sem, c2, h1']; exact ⟨rfl, rfl⟩) ?_; try dsimp only [thn, inBlk]
    (repeat' first
      | refine AWP.seq ?_
      | refine AWP.block ?_
      | (refine AWP.skip ?_; try dsimp only [thn, inBlk])
      | (refine AWP.exit ?_; try simp only [thn, inBlk, if_true, reduceIte, Nat.reduceEqDiff])
      | (refine AWP.ret ?_; try dsimp only [thn, inBlk])
      | (refine AWP.condT ?_ ?_; (focus (simp [go_sem, c2, h1']; done)))
      | (refine AWP.condF ?_ ?_; (focus (simp [go_sem, c2, h1']; done)))
      | (apply AWP.rE; (focus (simp [go_sem, c2, h1']; exact ⟨rfl, rfl⟩)); try dsimp only [thn, inBlk])
      | (apply AWP.dE hmix [.n 0 [0], .n 1 [39], .n 2 [40], .n 3 [41], .n 4 [5], .n 5 [3], .n 6 [42, 43], .w 7 [45, 44] []]; (focus kernel_rfl); (focus (simp [go_sem, c2, h1']; exact ⟨rfl, rfl⟩)); try dsimp only [thn, inBlk])
      | (apply AWP.dE hmix [.n 0 [7], .n 1 [62], .n 2 [63], .n 3 [0, 64], .n 4 [65, 64], .n 5 [66, 64], .n 6 [67, 64], .n 7 [8, 64], .n 8 [68, 69, 64], .n 9 [70, 64], .n 10 [71, 64], .n 11 [3, 64], .n 12 [73, 64], .n 13 [72, 74, 64], .n 14 [64, 75]]; (focus kernel_rfl); (focus (simp [go_sem, c2, h1']; exact ⟨rfl, rfl⟩)); try dsimp only [thn, inBlk])
      | fail)
    simp [bodyQ, thn, inBlk, resA, resV, go_sem]
    exact back k2
  have h1' : ¬ e.life < 1 := by omega
  by_cases h2 : e.life ≤ 1099511627776
  rotate_left
  · have e1 : putS es e = (1, es) := by simp [putS, goodE, hnb, h2]
    rw [e1]
    have h2' : 1099511627776 < e.life := by omega
    refine awpL_restE (by simp [go_sem, c2, h1', h2']; exact ⟨rfl, rfl⟩) ?_; try dsimp only [thn, inBlk]
    (repeat' first
      | refine AWP.seq ?_
      | refine AWP.block ?_
      | (refine AWP.skip ?_; try dsimp only [thn, inBlk])
      | (refine AWP.exit ?_; try simp only [thn, inBlk, if_true, reduceIte, Nat.reduceEqDiff])
      | (refine AWP.ret ?_; try dsimp only [thn, inBlk])
      | (refine AWP.condT ?_ ?_; (focus (simp [go_sem, c2, h1', h2']; done)))
      | (refine AWP.condF ?_ ?_; (focus (simp [go_sem, c2, h1', h2']; done)))
      | (apply AWP.rE; (focus (simp [go_sem, c2, h1', h2']; exact ⟨rfl, rfl⟩)); try dsimp only [thn, inBlk])
      | (apply AWP.dE hmix [.n 0 [0], .n 1 [39], .n 2 [40], .n 3 [41], .n 4 [5], .n 5 [3], .n 6 [42, 43], .w 7 [45, 44] []]; (focus kernel_rfl); (focus (simp [go_sem, c2, h1', h2']; exact ⟨rfl, rfl⟩)); try dsimp only [thn, inBlk])
      | (apply AWP.dE hmix [.n 0 [7], .n 1 [62], .n 2 [63], .n 3 [0, 64], .n 4 [65, 64], .n 5 [66, 64], .n 6 [67, 64], .n 7 [8, 64], .n 8 [68, 69, 64], .n 9 [70, 64], .n 10 [71, 64], .n 11 [3, 64], .n 12 [73, 64], .n 13 [72, 74, 64], .n 14 [64, 75]]; (focus kernel_rfl); (focus (simp [go_sem, c2, h1', h2']; exact ⟨rfl, rfl⟩)); try dsimp only [thn, inBlk])
      | fail)
    simp [bodyQ, thn, inBlk, resA, resV, go_sem]
    exact back k2
  have h2' : ¬ 1099511627776 < e.life := by omega
  by_cases h3 : e.flags < 0
  · have e1 : putS es e = (1, es) := by
      have : e.flags ≠ 0 ∧ e.flags ≠ 1 := by omega
      simp [putS, goodE, hnb, this]
    rw [e1]
    refine awpL_restE (by simp [go_sem, c2, h1', h2', h3]; exact ⟨rfl, rfl⟩) ?_; try dsimp only [thn, inBlk]
    (repeat' first
      | refine AWP.seq ?_
      | refine AWP.block ?_
      | (refine AWP.skip ?_; try dsimp only [thn, inBlk])
      | (refine AWP.exit ?_; try simp only [thn, inBlk, if_true, reduceIte, Nat.reduceEqDiff])
      | (refine AWP.ret ?_; try dsimp only [thn, inBlk])
      | (refine AWP.condT ?_ ?_; (focus (simp [go_sem, c2, h1', h2', h3]; done)))
      | (refine AWP.condF ?_ ?_; (focus (simp [go_sem, c2, h1', h2', h3]; done)))
      | (apply AWP.rE; (focus (simp [go_sem, c2, h1', h2', h3]; exact ⟨rfl, rfl⟩)); try dsimp only [thn, inBlk])
      | (apply AWP.dE hmix [.n 0 [0], .n 1 [39], .n 2 [40], .n 3 [41], .n 4 [5], .n 5 [3], .n 6 [42, 43], .w 7 [45, 44] []]; (focus kernel_rfl); (focus (simp [go_sem, c2, h1', h2', h3]; exact ⟨rfl, rfl⟩)); try dsimp only [thn, inBlk])
      | (apply AWP.dE hmix [.n 0 [7], .n 1 [62], .n 2 [63], .n 3 [0, 64], .n 4 [65, 64], .n 5 [66, 64], .n 6 [67, 64], .n 7 [8, 64], .n 8 [68, 69, 64], .n 9 [70, 64], .n 10 [71, 64], .n 11 [3, 64], .n 12 [73, 64], .n 13 [72, 74, 64], .n 14 [64, 75]]; (focus kernel_rfl); (focus (simp [go_sem, c2, h1', h2', h3]; exact ⟨rfl, rfl⟩)); try dsimp only [thn, inBlk])
      | fail)
    simp [bodyQ, thn, inBlk, resA, resV, go_sem]
    exact back k2
  by_cases h4 : 1 < e.flags
  · have e1 : putS es e = (1, es) := by
      have : e.flags ≠ 0 ∧ e.flags ≠ 1 := by omega
      simp [putS, goodE, hnb, this]
    rw [e1]
    refine awpL_restE (by simp [go_sem, c2, h1', h2', h3, h4]; exact ⟨rfl, rfl⟩) ?_; try dsimp only [thn, inBlk]
    (repeat' first
      | refine AWP.seq ?_
      | refine AWP.block ?_
      | (refine AWP.skip ?_; try dsimp only [thn, inBlk])
      | (refine AWP.exit ?_; try simp only [thn, inBlk, if_true, reduceIte, Nat.reduceEqDiff])
      | (refine AWP.ret ?_; try dsimp only [thn, inBlk])
      | (refine AWP.condT ?_ ?_; (focus (simp [go_sem, c2, h1', h2', h3, h4]; done)))
      | (refine AWP.condF ?_ ?_; (focus (simp [go_sem, c2, h1', h2', h3, h4]; done)))
      | (apply AWP.rE; (focus (simp [go_sem, c2, h1', h2', h3, h4]; exact ⟨rfl, rfl⟩)); try dsimp only [thn, inBlk])
      | (apply AWP.dE hmix [.n 0 [0], .n 1 [39], .n 2 [40], .n 3 [41], .n 4 [5], .n 5 [3], .n 6 [42, 43], .w 7 [45, 44] []]; (focus kernel_rfl); (focus (simp [go_sem, c2, h1', h2', h3, h4]; exact ⟨rfl, rfl⟩)); try dsimp only [thn, inBlk])
      | (apply AWP.dE hmix [.n 0 [7], .n 1 [62], .n 2 [63], .n 3 [0, 64], .n 4 [65, 64], .n 5 [66, 64], .n 6 [67, 64], .n 7 [8, 64], .n 8 [68, 69, 64], .n 9 [70, 64], .n 10 [71, 64], .n 11 [3, 64], .n 12 [73, 64], .n 13 [72, 74, 64], .n 14 [64, 75]]; (focus kernel_rfl); (focus (simp [go_sem, c2, h1', h2', h3, h4]; exact ⟨rfl, rfl⟩)); try dsimp only [thn, inBlk])
      | fail)
    simp [bodyQ, thn, inBlk, resA, resV, go_sem]
    exact back k2
  have hgood : goodE e = true := by
    have : e.flags = 0 ∨ e.flags = 1 := by omega
    rcases this with h3 | h3 <;> simp [goodE, hnb, h1, h2, h3]
  refine awpL_restE (by simp [go_sem, c2, h1', h2', h3, h4]; exact ⟨rfl, rfl⟩) ?_; try dsimp only [thn, inBlk]
  (repeat' first
    | refine AWP.seq ?_
    | refine AWP.block ?_
    | (refine AWP.skip ?_; try dsimp only [thn, inBlk])
    | (refine AWP.exit ?_; try simp only [thn, inBlk, if_true, reduceIte, Nat.reduceEqDiff])
    | (refine AWP.ret ?_; try dsimp only [thn, inBlk])
    | (refine AWP.condT ?_ ?_; (focus (simp [go_sem, c2]; done)))
    | (refine AWP.condF ?_ ?_; (focus (simp [go_sem, c2]; done)))
    | (apply AWP.rE; (focus (simp [go_sem, c2]; exact ⟨rfl, rfl⟩)); try dsimp only [thn, inBlk])
    | (apply AWP.dE hmix [.n 0 [0], .n 1 [39], .n 2 [40], .n 3 [41], .n 4 [5], .n 5 [3], .n 6 [42, 43], .w 7 [45, 44] []]; (focus kernel_rfl); (focus (simp [go_sem, c2]; exact ⟨rfl, rfl⟩)); try dsimp only [thn, inBlk])
    | (apply AWP.dE hmix [.n 0 [7], .n 1 [62], .n 2 [63], .n 3 [0, 64], .n 4 [65, 64], .n 5 [66, 64], .n 6 [67, 64], .n 7 [8, 64], .n 8 [68, 69, 64], .n 9 [70, 64], .n 10 [71, 64], .n 11 [3, 64], .n 12 [73, 64], .n 13 [72, 74, 64], .n 14 [64, 75]]; (focus kernel_rfl); (focus (simp [go_sem, c2]; exact ⟨rfl, rfl⟩)); try dsimp only [thn, inBlk])
    | fail)
  refine AWP.callE (by simp [go_sem, c2]; exact ⟨rfl, rfl, rfl, rfl, rfl⟩) (by kernel_rfl) ?_
  refine (at_calls (n := e.nm) k2.tail (by omega)).mono ?_
  rintro r h5 ⟨rfl, rfl⟩
  have ci := k2.b1.obj
  cases hi : idxE es e.nm with
  | some j =>
    obtain ⟨e0, he, hn0, e1⟩ := idx_some hi
    have hjl : j < es.length := (List.getElem?_eq_some_iff.1 he).1
    have e2 : putS es e = (0, es.set j e) := by simp [putS, hgood, hi]
    rw [e1, e2]
    have hj0 : (0 : Int) ≤ j := by omega
    obtain ⟨bi, bo, c, ti, q1, q2, q3, k6⟩ := Own.os_setR (P := Tryd.prog) (t := 28) Tryd.underlying28 tsz34 k2.b2 (j := j) (rs := en e) hjl en_len (kd := .i64)
    rw [flat_setL en_all (by rw [List.length_map]; exact hjl) en_len, ← List.map_set] at k6
    refine awpL_restE (by simp [go_sem]; exact ⟨rfl, rfl⟩) ?_; try dsimp only [thn, inBlk]
    (repeat' first
      | refine AWP.seq ?_
      | refine AWP.block ?_
      | (refine AWP.skip ?_; try dsimp only [thn, inBlk])
      | (refine AWP.exit ?_; try simp only [thn, inBlk, if_true, reduceIte, Nat.reduceEqDiff])
      | (refine AWP.ret ?_; try dsimp only [thn, inBlk])
      | (refine AWP.condT ?_ ?_; (focus (simp [go_sem, hj0]; done)))
      | (refine AWP.condF ?_ ?_; (focus (simp [go_sem, hj0]; done)))
      | (apply AWP.rE; (focus (simp [go_sem, hj0]; exact ⟨rfl, rfl⟩)); try dsimp only [thn, inBlk])
      | (apply AWP.dE hmix [.n 0 [0], .n 1 [39], .n 2 [40], .n 3 [41], .n 4 [5], .n 5 [3], .n 6 [42, 43], .w 7 [45, 44] []]; (focus kernel_rfl); (focus (simp [go_sem, hj0]; exact ⟨rfl, rfl⟩)); try dsimp only [thn, inBlk])
      | (apply AWP.dE hmix [.n 0 [7], .n 1 [62], .n 2 [63], .n 3 [0, 64], .n 4 [65, 64], .n 5 [66, 64], .n 6 [67, 64], .n 7 [8, 64], .n 8 [68, 69, 64], .n 9 [70, 64], .n 10 [71, 64], .n 11 [3, 64], .n 12 [73, 64], .n 13 [72, 74, 64], .n 14 [64, 75]]; (focus kernel_rfl); (focus (simp [go_sem, hj0]; exact ⟨rfl, rfl⟩)); try dsimp only [thn, inBlk])
      | fail)
    refine AWP.draw hmix [.n 0 [0], .n 1 [39], .n 2 [40], .n 3 [41], .n 4 [5], .n 5 [3], .n 6 [42, 43], .w 7 [45, 44] []] (by kernel_rfl) ?_
    refine awpD_writeR 7 (by rfl) (by rfl) (by simp [go_sem, c2, ci, q1, q2, q3]; exact ⟨rfl, rfl, rfl⟩) (by rfl) (by rfl) (by simp [go_sem]) (by simp [go_sem, c2, ci, q1, q2, q3]; exact ⟨rfl, rfl⟩) (by simp [still, go_sem, c2, ci, q1, q2, q3]) ?_
    refine awpD_restR (by rfl) (by simp [go_sem]; exact ⟨rfl, rfl, rfl⟩) ?_; try dsimp only [thn, inBlk]
    (repeat' first
      | refine AWP.seq ?_
      | refine AWP.block ?_
      | (refine AWP.skip ?_; try dsimp only [thn, inBlk])
      | (refine AWP.exit ?_; try simp only [thn, inBlk, if_true, reduceIte, Nat.reduceEqDiff])
      | (refine AWP.ret ?_; try dsimp only [thn, inBlk])
      | (refine AWP.condT ?_ ?_; (focus (simp [go_sem]; done)))
      | (refine AWP.condF ?_ ?_; (focus (simp [go_sem]; done)))
      | (apply AWP.rE; (focus (simp [go_sem]; exact ⟨rfl, rfl⟩)); try dsimp only [thn, inBlk])
      | (apply AWP.dE hmix [.n 0 [0], .n 1 [39], .n 2 [40], .n 3 [41], .n 4 [5], .n 5 [3], .n 6 [42, 43], .w 7 [45, 44] []]; (focus kernel_rfl); (focus (simp [go_sem]; exact ⟨rfl, rfl⟩)); try dsimp only [thn, inBlk])
      | (apply AWP.dE hmix [.n 0 [7], .n 1 [62], .n 2 [63], .n 3 [0, 64], .n 4 [65, 64], .n 5 [66, 64], .n 6 [67, 64], .n 7 [8, 64], .n 8 [68, 69, 64], .n 9 [70, 64], .n 10 [71, 64], .n 11 [3, 64], .n 12 [73, 64], .n 13 [72, 74, 64], .n 14 [64, 75]]; (focus kernel_rfl); (focus (simp [go_sem]; exact ⟨rfl, rfl⟩)); try dsimp only [thn, inBlk])
      | fail)
    simp [bodyQ, thn, inBlk, resA, resV, go_sem]
    refine rbs_iff.2 ⟨v, ?_⟩
    rw [ens, List.length_set]
    exact (k6.d1.b1)
  | none =>
    have e1 : idxV es e.nm = -1 := by simp only [idxV, hi]
    obtain ⟨va, vc, rfl⟩ := k2.b2.os_val
    rw [e1]
    by_cases h16 : 16 ≤ es.length
    · have e2 : putS es e = (2, es) := by simp [putS, hgood, hi, h16]
      rw [e2]
      have h16' : (16 : Int) ≤ es.length := by omega
      refine awpL_restE (by simp [go_sem]; exact ⟨rfl, rfl⟩) ?_; try dsimp only [thn, inBlk]
      (repeat' first
        | refine AWP.seq ?_
        | refine AWP.block ?_
        | (refine AWP.skip ?_; try dsimp only [thn, inBlk])
        | (refine AWP.exit ?_; try simp only [thn, inBlk, if_true, reduceIte, Nat.reduceEqDiff])
        | (refine AWP.ret ?_; try dsimp only [thn, inBlk])
        | (refine AWP.condT ?_ ?_; (focus (simp [go_sem, ci, h16']; done)))
        | (refine AWP.condF ?_ ?_; (focus (simp [go_sem, ci, h16']; done)))
        | (apply AWP.rE; (focus (simp [go_sem, ci, h16']; exact ⟨rfl, rfl⟩)); try dsimp only [thn, inBlk])
        | (apply AWP.dE hmix [.n 0 [0], .n 1 [39], .n 2 [40], .n 3 [41], .n 4 [5], .n 5 [3], .n 6 [42, 43], .w 7 [45, 44] []]; (focus kernel_rfl); (focus (simp [go_sem, ci, h16']; exact ⟨rfl, rfl⟩)); try dsimp only [thn, inBlk])
        | (apply AWP.dE hmix [.n 0 [7], .n 1 [62], .n 2 [63], .n 3 [0, 64], .n 4 [65, 64], .n 5 [66, 64], .n 6 [67, 64], .n 7 [8, 64], .n 8 [68, 69, 64], .n 9 [70, 64], .n 10 [71, 64], .n 11 [3, 64], .n 12 [73, 64], .n 13 [72, 74, 64], .n 14 [64, 75]]; (focus kernel_rfl); (focus (simp [go_sem, ci, h16']; exact ⟨rfl, rfl⟩)); try dsimp only [thn, inBlk])
        | fail)
      simp [bodyQ, thn, inBlk, resA, resV, go_sem]
      exact back k2
    have e2 : putS es e = (0, insG e es) := by simp [putS, hgood, hi, h16]
    rw [e2]
    have h16' : ¬ (16 : Int) ≤ es.length := by omega
    have b0 := build0 (id := h5.next)
    have k6 : Own O (h5.push (.row [] 34 20 true false)) (os 34 20 (.slice (some ⟨h5.next, 0, none⟩) 0 0) 0 [] :: cell h.next (.row (en e) 34 20 true false) :: cell i (rrow (.slice va es.length vc)) :: ens (.slice va es.length vc) es :: R) := (k2.push (.row [] 34 20 true false)).os_mk (Nat.le_refl _) (by simp) (by simp)
    refine awpL_restE (by simp [go_sem]; exact ⟨rfl, rfl⟩) ?_; try dsimp only [thn, inBlk]
    (repeat' first
      | refine AWP.seq ?_
      | refine AWP.block ?_
      | (refine AWP.skip ?_; try dsimp only [thn, inBlk])
      | (refine AWP.exit ?_; try simp only [thn, inBlk, if_true, reduceIte, Nat.reduceEqDiff])
      | (refine AWP.ret ?_; try dsimp only [thn, inBlk])
      | (refine AWP.condT ?_ ?_; (focus (simp [go_sem, ci, h16', ↓b0]; done)))
      | (refine AWP.condF ?_ ?_; (focus (simp [go_sem, ci, h16', ↓b0]; done)))
      | (apply AWP.rE; (focus (simp [go_sem, ci, h16', ↓b0]; exact ⟨rfl, rfl⟩)); try dsimp only [thn, inBlk])
      | (apply AWP.dE hmix [.n 0 [0], .n 1 [39], .n 2 [40], .n 3 [41], .n 4 [5], .n 5 [3], .n 6 [42, 43], .w 7 [45, 44] []]; (focus kernel_rfl); (focus (simp [go_sem, ci, h16', ↓b0]; exact ⟨rfl, rfl⟩)); try dsimp only [thn, inBlk])
      | (apply AWP.dE hmix [.n 0 [7], .n 1 [62], .n 2 [63], .n 3 [0, 64], .n 4 [65, 64], .n 5 [66, 64], .n 6 [67, 64], .n 7 [8, 64], .n 8 [68, 69, 64], .n 9 [70, 64], .n 10 [71, 64], .n 11 [3, 64], .n 12 [73, 64], .n 13 [72, 74, 64], .n 14 [64, 75]]; (focus kernel_rfl); (focus (simp [go_sem, ci, h16', ↓b0]; exact ⟨rfl, rfl⟩)); try dsimp only [thn, inBlk])
      | fail)
    refine AWP.loopR [0, 3, 6, 7, 8] (fun m s h' => ∃ (j : Nat) (a : Option Addr) (cap : Nat), j ≤ es.length ∧ m = es.length - j ∧ s = ⟨101, [(0, ptr i), (3, ptr h.next), (6, .slice a (outG e (es.take j)).length cap), (7, .bool (gtA e (es.take j))), (8, .int .i64 j)]⟩ ∧
      Own O h' (ens (.slice a (outG e (es.take j)).length cap) (outG e (es.take j)) :: cell h.next (.row (en e) 34 20 true false) :: cell i (rrow (.slice va es.length vc)) :: ens (.slice va es.length vc) es :: R)) ?_ ?_
    · refine ⟨_, 0, some ⟨h5.next, 0, none⟩, 0, by omega, rfl, ?_, ?_⟩
      · simp [go_sem, outG, gtA]
      · simpa [outG, gtA, ens] using k6
    rintro m s hB ⟨j, a, cap, hj, rfl, rfl, kB⟩
    have cB := kB.b1.obj
    have ciB := kB.b2.obj
    have hol := outG_len (e := e) (es := es.take j)
    have htl : (es.take j).length ≤ j := by rw [List.length_take]; omega
    by_cases hjm : j < es.length
    · have hjm' : (j : Int) < es.length := by omega
      have hj' : es[j]? = some es[j] := List.getElem?_eq_getElem hjm
      have htk : es.take (j + 1) = es.take j ++ [es[j]] := List.take_succ_eq_append_getElem hjm
      have w1 : IntKind.i64.wrap ((j : Int) + 1) = ((j + 1 : Nat) : Int) := by rw [wI64 (by omega) (by omega)]; omega
      have q := fun {hh : AHeap} {A : List Chunk} (kk : Own O hh (ens (.slice va es.length vc) es :: A)) => en_at kk hj' (kd := .i64)
      generalize es[j] = x at *
      cases hg : gtA e (es.take j)
      · obtain ⟨bi, bo, c, e', sz, ti, ro, q1, q2, q3, q4, q5, q6⟩ := q kB.b3
        by_cases hx : e.nm < x.nm
        rotate_left
        · have ho : outG e (es.take (j + 1)) = outG e (es.take j) ++ [x] := by rw [htk, out_not hg hx]
          have hg2 : gtA e (es.take (j + 1)) = false := by rw [htk, gt_app, hg]; simpa using hx
          obtain ⟨na, nc, h7, e7, k7⟩ := Own.appN (P := Tryd.prog) (t := 28) (xt := 28) (m := 1) (xs := en x) (i := hB.next) Tryd.underlying28 tsz34 tby34 tzE nI28 (by omega) (by omega) zE_size kB rfl en_len en_ok (by omega)
          have b1 := build1 (id := hB.next) (e := x)
          (repeat' first
            | refine AWP.seq ?_
            | refine AWP.block ?_
            | (refine AWP.skip ?_; try dsimp only [thn, inBlk])
            | (refine AWP.exit ?_; try simp only [thn, inBlk, if_true, reduceIte, Nat.reduceEqDiff])
            | (refine AWP.ret ?_; try dsimp only [thn, inBlk])
            | (refine AWP.condT ?_ ?_; (focus (simp [go_sem, hjm', ciB, cB, w1, hg, q1, q2, q3, q4, q5, strA_gtr, hx, ↓b1, e7]; done)))
            | (refine AWP.condF ?_ ?_; (focus (simp [go_sem, hjm', ciB, cB, w1, hg, q1, q2, q3, q4, q5, strA_gtr, hx, ↓b1, e7]; done)))
            | (apply AWP.rE; (focus (simp [go_sem, hjm', ciB, cB, w1, hg, q1, q2, q3, q4, q5, strA_gtr, hx, ↓b1, e7]; exact ⟨rfl, rfl⟩)); try dsimp only [thn, inBlk])
            | (apply AWP.dE hmix [.n 0 [0], .n 1 [39], .n 2 [40], .n 3 [41], .n 4 [5], .n 5 [3], .n 6 [42, 43], .w 7 [45, 44] []]; (focus kernel_rfl); (focus (simp [go_sem, hjm', ciB, cB, w1, hg, q1, q2, q3, q4, q5, strA_gtr, hx, ↓b1, e7]; exact ⟨rfl, rfl⟩)); try dsimp only [thn, inBlk])
            | (apply AWP.dE hmix [.n 0 [7], .n 1 [62], .n 2 [63], .n 3 [0, 64], .n 4 [65, 64], .n 5 [66, 64], .n 6 [67, 64], .n 7 [8, 64], .n 8 [68, 69, 64], .n 9 [70, 64], .n 10 [71, 64], .n 11 [3, 64], .n 12 [73, 64], .n 13 [72, 74, 64], .n 14 [64, 75]]; (focus kernel_rfl); (focus (simp [go_sem, hjm', ciB, cB, w1, hg, q1, q2, q3, q4, q5, strA_gtr, hx, ↓b1, e7]; exact ⟨rfl, rfl⟩)); try dsimp only [thn, inBlk])
            | fail)
          refine ⟨es.length - (j + 1), by omega, j + 1, na, nc, by omega, rfl, by simp [go_sem, ho, hg2], ?_⟩
          rw [ho, List.length_append]
          exact ens_app k7
        · have ho : outG e (es.take (j + 1)) = (outG e (es.take j) ++ [e]) ++ [x] := by rw [htk, out_now hg hx, List.append_assoc]; rfl
          have hg2 : gtA e (es.take (j + 1)) = true := by rw [htk, gt_app, hg]; simpa using hx
          obtain ⟨na, nc, h7, e7, k7⟩ := Own.appN (P := Tryd.prog) (t := 28) (xt := 28) (m := 1) (xs := en e) (i := hB.next) Tryd.underlying28 tsz34 tby34 tzE nI28 (by omega) (by omega) zE_size kB rfl en_len en_ok (by omega)
          have b1 := build1 (id := hB.next) (e := e)
          have c7 := k7.b2.obj
          obtain ⟨bi2, bo2, cc, e2', sz2, ti2, ro2, r1, r2, r3, r4, r5, r6⟩ := q k7.b3
          cases q1.symm.trans r1
          obtain ⟨na2, nc2, h8, e8, k8⟩ := Own.appN (P := Tryd.prog) (t := 28) (xt := 28) (m := 1) (xs := en x) (i := h7.next) Tryd.underlying28 tsz34 tby34 tzE nI28 (by omega) (by omega) zE_size k7 rfl en_len en_ok (by omega)
          have b2 := build1 (id := h7.next) (e := x)
          (repeat' first
            | refine AWP.seq ?_
            | refine AWP.block ?_
            | (refine AWP.skip ?_; try dsimp only [thn, inBlk])
            | (refine AWP.exit ?_; try simp only [thn, inBlk, if_true, reduceIte, Nat.reduceEqDiff])
            | (refine AWP.ret ?_; try dsimp only [thn, inBlk])
            | (refine AWP.condT ?_ ?_; (focus (simp [go_sem, hjm', ciB, cB, w1, hg, q1, q2, q3, q4, q5, strA_gtr, hx, ↓b1, e7, c7, r2, r3, r4, ↓b2, e8]; done)))
            | (refine AWP.condF ?_ ?_; (focus (simp [go_sem, hjm', ciB, cB, w1, hg, q1, q2, q3, q4, q5, strA_gtr, hx, ↓b1, e7, c7, r2, r3, r4, ↓b2, e8]; done)))
            | (apply AWP.rE; (focus (simp [go_sem, hjm', ciB, cB, w1, hg, q1, q2, q3, q4, q5, strA_gtr, hx, ↓b1, e7, c7, r2, r3, r4, ↓b2, e8]; exact ⟨rfl, rfl⟩)); try dsimp only [thn, inBlk])
            | (apply AWP.dE hmix [.n 0 [0], .n 1 [39], .n 2 [40], .n 3 [41], .n 4 [5], .n 5 [3], .n 6 [42, 43], .w 7 [45, 44] []]; (focus kernel_rfl); (focus (simp [go_sem, hjm', ciB, cB, w1, hg, q1, q2, q3, q4, q5, strA_gtr, hx, ↓b1, e7, c7, r2, r3, r4, ↓b2, e8]; exact ⟨rfl, rfl⟩)); try dsimp only [thn, inBlk])
            | (apply AWP.dE hmix [.n 0 [7], .n 1 [62], .n 2 [63], .n 3 [0, 64], .n 4 [65, 64], .n 5 [66, 64], .n 6 [67, 64], .n 7 [8, 64], .n 8 [68, 69, 64], .n 9 [70, 64], .n 10 [71, 64], .n 11 [3, 64], .n 12 [73, 64], .n 13 [72, 74, 64], .n 14 [64, 75]]; (focus kernel_rfl); (focus (simp [go_sem, hjm', ciB, cB, w1, hg, q1, q2, q3, q4, q5, strA_gtr, hx, ↓b1, e7, c7, r2, r3, r4, ↓b2, e8]; exact ⟨rfl, rfl⟩)); try dsimp only [thn, inBlk])
            | fail)
          refine ⟨es.length - (j + 1), by omega, j + 1, na2, nc2, by omega, rfl, by simp [go_sem, ho, hg2], ?_⟩
          rw [ho, List.length_append, List.length_append]
          have k9 := ens_app k7
          refine ens_app ?_
          rw [List.length_append, List.map_append, List.flatten_append]
          simpa using k8
      · have ho : outG e (es.take (j + 1)) = outG e (es.take j) ++ [x] := by rw [htk, out_done hg]
        have hg2 : gtA e (es.take (j + 1)) = true := by rw [htk, gt_app, hg]; rfl
        obtain ⟨bi, bo, c, e', sz, ti, ro, q1, q2, q3, q4, q5, q6⟩ := q kB.b3
        obtain ⟨na, nc, h7, e7, k7⟩ := Own.appN (P := Tryd.prog) (t := 28) (xt := 28) (m := 1) (xs := en x) (i := hB.next) Tryd.underlying28 tsz34 tby34 tzE nI28 (by omega) (by omega) zE_size kB rfl en_len en_ok (by omega)
        have b1 := build1 (id := hB.next) (e := x)
        (repeat' first
          | refine AWP.seq ?_
          | refine AWP.block ?_
          | (refine AWP.skip ?_; try dsimp only [thn, inBlk])
          | (refine AWP.exit ?_; try simp only [thn, inBlk, if_true, reduceIte, Nat.reduceEqDiff])
          | (refine AWP.ret ?_; try dsimp only [thn, inBlk])
          | (refine AWP.condT ?_ ?_; (focus (simp [go_sem, hjm', ciB, cB, w1, hg, q1, q2, q3, q4, ↓b1, e7]; done)))
          | (refine AWP.condF ?_ ?_; (focus (simp [go_sem, hjm', ciB, cB, w1, hg, q1, q2, q3, q4, ↓b1, e7]; done)))
          | (apply AWP.rE; (focus (simp [go_sem, hjm', ciB, cB, w1, hg, q1, q2, q3, q4, ↓b1, e7]; exact ⟨rfl, rfl⟩)); try dsimp only [thn, inBlk])
          | (apply AWP.dE hmix [.n 0 [0], .n 1 [39], .n 2 [40], .n 3 [41], .n 4 [5], .n 5 [3], .n 6 [42, 43], .w 7 [45, 44] []]; (focus kernel_rfl); (focus (simp [go_sem, hjm', ciB, cB, w1, hg, q1, q2, q3, q4, ↓b1, e7]; exact ⟨rfl, rfl⟩)); try dsimp only [thn, inBlk])
          | (apply AWP.dE hmix [.n 0 [7], .n 1 [62], .n 2 [63], .n 3 [0, 64], .n 4 [65, 64], .n 5 [66, 64], .n 6 [67, 64], .n 7 [8, 64], .n 8 [68, 69, 64], .n 9 [70, 64], .n 10 [71, 64], .n 11 [3, 64], .n 12 [73, 64], .n 13 [72, 74, 64], .n 14 [64, 75]]; (focus kernel_rfl); (focus (simp [go_sem, hjm', ciB, cB, w1, hg, q1, q2, q3, q4, ↓b1, e7]; exact ⟨rfl, rfl⟩)); try dsimp only [thn, inBlk])
          | fail)
        refine ⟨es.length - (j + 1), by omega, j + 1, na, nc, by omega, rfl, by simp [go_sem, ho, hg2], ?_⟩
        rw [ho, List.length_append]
        exact ens_app k7
    · have hjm' : ¬ (j : Int) < es.length := by omega
      obtain rfl : j = es.length := by omega
      rw [List.take_length] at kB hol ⊢
      cases hg : gtA e es
      · have ho : insG e es = outG e es ++ [e] := by simp only [outG, hg]; exact ins_none hg
        obtain ⟨na, nc, h7, e7, k7⟩ := Own.appN (P := Tryd.prog) (t := 28) (xt := 28) (m := 1) (xs := en e) (i := hB.next) Tryd.underlying28 tsz34 tby34 tzE nI28 (by omega) (by omega) zE_size kB rfl en_len en_ok (by omega)
        have b1 := build1 (id := hB.next) (e := e)
        have c7 := k7.b2.obj
        (repeat' first
          | refine AWP.seq ?_
          | refine AWP.block ?_
          | (refine AWP.skip ?_; try dsimp only [thn, inBlk])
          | (refine AWP.exit ?_; try simp only [thn, inBlk, if_true, reduceIte, Nat.reduceEqDiff])
          | (refine AWP.ret ?_; try dsimp only [thn, inBlk])
          | (refine AWP.condT ?_ ?_; (focus (simp [go_sem, hjm', ciB, cB, hg, ↓b1, e7, c7]; done)))
          | (refine AWP.condF ?_ ?_; (focus (simp [go_sem, hjm', ciB, cB, hg, ↓b1, e7, c7]; done)))
          | (apply AWP.rE; (focus (simp [go_sem, hjm', ciB, cB, hg, ↓b1, e7, c7]; exact ⟨rfl, rfl⟩)); try dsimp only [thn, inBlk])
          | (apply AWP.dE hmix [.n 0 [0], .n 1 [39], .n 2 [40], .n 3 [41], .n 4 [5], .n 5 [3], .n 6 [42, 43], .w 7 [45, 44] []]; (focus kernel_rfl); (focus (simp [go_sem, hjm', ciB, cB, hg, ↓b1, e7, c7]; exact ⟨rfl, rfl⟩)); try dsimp only [thn, inBlk])
          | (apply AWP.dE hmix [.n 0 [7], .n 1 [62], .n 2 [63], .n 3 [0, 64], .n 4 [65, 64], .n 5 [66, 64], .n 6 [67, 64], .n 7 [8, 64], .n 8 [68, 69, 64], .n 9 [70, 64], .n 10 [71, 64], .n 11 [3, 64], .n 12 [73, 64], .n 13 [72, 74, 64], .n 14 [64, 75]]; (focus kernel_rfl); (focus (simp [go_sem, hjm', ciB, cB, hg, ↓b1, e7, c7]; exact ⟨rfl, rfl⟩)); try dsimp only [thn, inBlk])
          | fail)
        simp [bodyQ, thn, inBlk, resA, resV, go_sem]
        have k8 := ((ens_app k7).b2.set (rrow (.slice na ((outG e es).length + 1) nc))).d2
        rw [← ho] at k8
        have k9 : Own O _ (ens (.slice na ((outG e es).length + 1) nc) (insG e es) :: _) := k8.b1
        refine rbs_iff.2 ⟨.slice na ((outG e es).length + 1) nc, ?_⟩
        exact k9.b1.d2
      · have ho : insG e es = outG e es := by simp only [outG, hg]; rfl
        (repeat' first
          | refine AWP.seq ?_
          | refine AWP.block ?_
          | (refine AWP.skip ?_; try dsimp only [thn, inBlk])
          | (refine AWP.exit ?_; try simp only [thn, inBlk, if_true, reduceIte, Nat.reduceEqDiff])
          | (refine AWP.ret ?_; try dsimp only [thn, inBlk])
          | (refine AWP.condT ?_ ?_; (focus (simp [go_sem, hjm', ciB, cB, hg]; done)))
          | (refine AWP.condF ?_ ?_; (focus (simp [go_sem, hjm', ciB, cB, hg]; done)))
          | (apply AWP.rE; (focus (simp [go_sem, hjm', ciB, cB, hg]; exact ⟨rfl, rfl⟩)); try dsimp only [thn, inBlk])
          | (apply AWP.dE hmix [.n 0 [0], .n 1 [39], .n 2 [40], .n 3 [41], .n 4 [5], .n 5 [3], .n 6 [42, 43], .w 7 [45, 44] []]; (focus kernel_rfl); (focus (simp [go_sem, hjm', ciB, cB, hg]; exact ⟨rfl, rfl⟩)); try dsimp only [thn, inBlk])
          | (apply AWP.dE hmix [.n 0 [7], .n 1 [62], .n 2 [63], .n 3 [0, 64], .n 4 [65, 64], .n 5 [66, 64], .n 6 [67, 64], .n 7 [8, 64], .n 8 [68, 69, 64], .n 9 [70, 64], .n 10 [71, 64], .n 11 [3, 64], .n 12 [73, 64], .n 13 [72, 74, 64], .n 14 [64, 75]]; (focus kernel_rfl); (focus (simp [go_sem, hjm', ciB, cB, hg]; exact ⟨rfl, rfl⟩)); try dsimp only [thn, inBlk])
          | fail)
        simp [bodyQ, thn, inBlk, resA, resV, go_sem]
        rw [ho]
        exact rbs_iff.2 ⟨_, (kB.b2.set (rrow (.slice a (outG e es).length cap))).d2.d2⟩
end
end L09
