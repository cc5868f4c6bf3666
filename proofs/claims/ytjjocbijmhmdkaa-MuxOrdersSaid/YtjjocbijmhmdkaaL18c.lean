import Derived.Test.YtjjocbijmhmdkaaL18b
open Go Ab Go.Proofs
namespace L18
set_option autoImplicit false
set_option linter.unusedSimpArgs false
set_option linter.unusedVariables false

theorem clone_calls {O : Old} {h : AHeap} {R : List Chunk} {v : Value} {bs : List UInt8} (k : Own O h R) (hx : ∀ h, Own O h R → Bytes h v bs) (hm : bs.length ≤ 140737488355328) :
    ACalls Try.prog 32 #[v] h fun r h' => ∃ a cap, r = .slice a bs.length cap ∧ Own O h' (ob 5 (.slice a bs.length cap) bs :: R) := by
  refine ACalls.of_awp (args := [v]) (n := 8) Try.func32 rfl rfl (by show 1 ≤ 8; omega) ?_
  rcases hx h k with ⟨rfl, rfl⟩ | ⟨i, off, cap, c, e, sz, ti, ro, rfl, _⟩
  · (repeat' first
      | refine AWP.seq ?_
      | refine AWP.block ?_
      | (refine AWP.skip ?_; try dsimp only [thn, inBlk])
      | (refine AWP.exit ?_; try simp only [thn, inBlk, if_true, reduceIte, Nat.reduceEqDiff])
      | (refine AWP.ret ?_; try dsimp only [thn, inBlk])
      | (refine AWP.condT ?_ ?_; (focus (simp [go_sem]; done)))
      | (refine AWP.condF ?_ ?_; (focus (simp [go_sem]; done)))
      | (apply AWP.rE; (focus (simp [go_sem]; exact ⟨rfl, rfl⟩)); try dsimp only [thn, inBlk])
      | fail)
    simp [bodyQ, thn, inBlk, resA, resV, go_sem]
    exact ⟨_, _, ⟨rfl, rfl⟩, k.nil 5 1⟩
  · obtain ⟨a2, c2, h2, e1, k2⟩ := k.copy (P := Try.prog) (t := 28) (xt := 28) (i := h.next) Try.underlying28 tsz5 tby5 tz5 nI28 hx hm rfl
    (repeat' first
      | refine AWP.seq ?_
      | refine AWP.block ?_
      | (refine AWP.skip ?_; try dsimp only [thn, inBlk])
      | (refine AWP.exit ?_; try simp only [thn, inBlk, if_true, reduceIte, Nat.reduceEqDiff])
      | (refine AWP.ret ?_; try dsimp only [thn, inBlk])
      | (refine AWP.condT ?_ ?_; (focus (simp [go_sem, e1]; done)))
      | (refine AWP.condF ?_ ?_; (focus (simp [go_sem, e1]; done)))
      | (apply AWP.rE; (focus (simp [go_sem, e1]; exact ⟨rfl, rfl⟩)); try dsimp only [thn, inBlk])
      | fail)
    simp [bodyQ, thn, inBlk, resA, resV, go_sem]
    exact ⟨_, _, ⟨rfl, rfl⟩, k2⟩

def zo (j : Nat) : List Hf := (List.range 4).map fun c => ⟨[], if c < j then 1024 else 0, false, false⟩
def zi (j : Nat) : List Ot := (List.range 4).map fun c => ⟨[], if c < j then 1024 else 0, 0, false⟩
def zn : List PA := [(none, 0), (none, 0), (none, 0), (none, 0)]
theorem zfour (j m : Nat) : Four (zo j) zn (zi m) zn := ⟨rfl, rfl, rfl, rfl⟩
theorem tzM : tzero Try.prog 69 = some (.agg (mcells (zo 0) zn (zi 0) zn).toArray) := by kernel_rfl
theorem buildZ : buildP Try.prog 69 [] = some (.agg (mcells (zo 0) zn (zi 0) zn).toArray) := by
  rw [buildP_nil]
  have h1' : constOk (.agg (mcells (zo 0) zn (zi 0) zn).toArray) = true := by rfl
  simp only [tzM, tsz69, Try.underlying69]
  simp
  exact ⟨h1', ⟨rfl, rfl⟩, rfl⟩
theorem zo_set {j : Nat} (h : j < 4) : (zo j).set j ⟨[], 1024, false, false⟩ = zo (j + 1) := by
  match j, h with
  | 0, _ => rfl
  | 1, _ => rfl
  | 2, _ => rfl
  | 3, _ => rfl
theorem zi_set {j : Nat} (h : j < 4) : (zi j).set j ⟨[], 1024, 0, false⟩ = zi (j + 1) := by
  match j, h with
  | 0, _ => rfl
  | 1, _ => rfl
  | 2, _ => rfl
  | 3, _ => rfl
theorem zn_set {j : Nat} (h : j < 4) : zn.set j (none, 0) = zn := by
  match j, h with
  | 0, _ => rfl
  | 1, _ => rfl
  | 2, _ => rfl
  | 3, _ => rfl
theorem zo_get {j : Nat} (h : j < 4) (hh : j < (zo j).length) : (zo j)[j] = ⟨[], 0, false, false⟩ := by
  match j, h with
  | 0, _ => rfl
  | 1, _ => rfl
  | 2, _ => rfl
  | 3, _ => rfl
theorem zi_get {j : Nat} (h : j < 4) (hh : j < (zi j).length) : (zi j)[j] = ⟨[], 0, 0, false⟩ := by
  match j, h with
  | 0, _ => rfl
  | 1, _ => rfl
  | 2, _ => rfl
  | 3, _ => rfl
theorem zn_get {j : Nat} (h : j < 4) (hh : j < zn.length) : zn[j] = (none, 0) := by
  match j, h with
  | 0, _ => rfl
  | 1, _ => rfl
  | 2, _ => rfl
  | 3, _ => rfl

theorem hs_z : hs (zo 4) zn = [ob 5 (.slice none 0 0) [], ob 5 (.slice none 0 0) [], ob 5 (.slice none 0 0) [], ob 5 (.slice none 0 0) []] := rfl
theorem os_z : os_ (zi 4) zn = [ob 5 (.slice none 0 0) [], ob 5 (.slice none 0 0) [], ob 5 (.slice none 0 0) [], ob 5 (.slice none 0 0) []] := rfl
theorem zero_own {O : Old} {h : AHeap} {R : List Chunk} {C : Chunk} (k : Own O h (C :: R)) : Own O h (C :: (hs (zo 4) zn ++ (os_ (zi 4) zn ++ R))) := by
  rw [hs_z, os_z]
  have k9 := (((((((k.nil 5 1).nil 5 1).nil 5 1).nil 5 1).nil 5 1).nil 5 1).nil 5 1).nil 5 1
  exact k9.perm (List.perm_middle (l₁ := [ob 5 (.slice none 0 0) [], ob 5 (.slice none 0 0) [], ob 5 (.slice none 0 0) [], ob 5 (.slice none 0 0) [], ob 5 (.slice none 0 0) [], ob 5 (.slice none 0 0) [], ob 5 (.slice none 0 0) [], ob 5 (.slice none 0 0) []]))

abbrev ptr (b : Nat) : Value := .pointer (some ⟨b, 0, none⟩)
attribute [local irreducible] mcells
set_option maxHeartbeats 4000000 in
theorem new_calls {O : Old} {h : AHeap} {R : List Chunk} (k : Own O h R) : ACalls Try.prog 9 #[] h fun r h' => ∃ b, r = ptr b ∧ Own O h' (mux b (zo 4) (zi 4) :: R) := by
  refine ACalls.of_awp (args := []) (n := 22) Try.func9 rfl rfl (by show 0 ≤ 22; omega) ?_
  have k1 := k.push (mrow (zo 0) zn (zi 0) zn)
  have m0 := m_len (zfour 0 0)
  (repeat' first
    | refine AWP.seq ?_
    | refine AWP.block ?_
    | (refine AWP.skip ?_; try dsimp only [thn, inBlk])
    | (refine AWP.exit ?_; try simp only [thn, inBlk, if_true, reduceIte, Nat.reduceEqDiff])
    | (refine AWP.ret ?_; try dsimp only [thn, inBlk])
    | (refine AWP.condT ?_ ?_; (focus (simp [go_sem, ↓buildZ, m0]; done)))
    | (refine AWP.condF ?_ ?_; (focus (simp [go_sem, ↓buildZ, m0]; done)))
    | (apply AWP.rE; (focus (simp [go_sem, ↓buildZ, m0]; exact ⟨rfl, rfl⟩)); try dsimp only [thn, inBlk])
    | (apply AWP.dE hmix [.n 0 [1], .n 1 [2], .n 2 [1], .n 3 [2], .n 4 [8], .n 5 [12], .n 6 [13, 9], .n 7 [14], .n 9 [10], .n 10 [16], .w 8 [15] [], .n 11 [17, 11], .n 12 [18], .w 13 [19] []]; (focus kernel_rfl); (focus (simp [go_sem, ↓buildZ, m0]; exact ⟨rfl, rfl⟩)); try dsimp only [thn, inBlk])
    | fail)
  refine AWP.loopR [1, 5] (fun m s h' => ∃ j, j ≤ 4 ∧ m = 4 - j ∧ s = ⟨22, [(1, ptr h.next), (5, .int .i64 (j : Nat))]⟩ ∧ Own O h' (cell h.next (mrow (zo j) zn (zi j) zn) :: R)) ?_ ?_
  · exact ⟨_, 0, by omega, rfl, by simp [go_sem], k1⟩
  rintro m s h' ⟨j, hj, rfl, rfl, kt⟩
  by_cases hj2 : j < 4
  rotate_left
  · have hj3 : ¬ (j : Int) < 4 := by omega
    obtain rfl : j = 4 := by omega
    (repeat' first
      | refine AWP.seq ?_
      | refine AWP.block ?_
      | (refine AWP.skip ?_; try dsimp only [thn, inBlk])
      | (refine AWP.exit ?_; try simp only [thn, inBlk, if_true, reduceIte, Nat.reduceEqDiff])
      | (refine AWP.ret ?_; try dsimp only [thn, inBlk])
      | (refine AWP.condT ?_ ?_; (focus (simp [go_sem]; done)))
      | (refine AWP.condF ?_ ?_; (focus (simp [go_sem]; done)))
      | (apply AWP.rE; (focus (simp [go_sem]; exact ⟨rfl, rfl⟩)); try dsimp only [thn, inBlk])
      | (apply AWP.dE hmix [.n 0 [1], .n 1 [2], .n 2 [1], .n 3 [2], .n 4 [8], .n 5 [12], .n 6 [13, 9], .n 7 [14], .n 9 [10], .n 10 [16], .w 8 [15] [], .n 11 [17, 11], .n 12 [18], .w 13 [19] []]; (focus kernel_rfl); (focus (simp [go_sem]; exact ⟨rfl, rfl⟩)); try dsimp only [thn, inBlk])
      | fail)
    simp [bodyQ, thn, inBlk, resA, resV, go_sem]
    exact mux_iff.2 ⟨zn, zn, zfour 4 4, zero_own kt⟩
  have hj3 : (j : Int) < 4 := by omega
  have wj : IntKind.i64.wrap ((j : Int) + 1) = ((j + 1 : Nat) : Int) := by rw [wI64 (by omega) (by omega)]; omega
  have c1 := kt.obj
  have l1 := m_len (zfour j j)
  have l2 := m_len (zfour (j + 1) j)
  have b1 : j * 4 ≤ 30 := by omega
  have b2 : 16 + j * 4 ≤ 30 := by omega
  have e1 : (mcells (zo j) zn (zi j) zn).set (j * 4 + 1) (.int .i64 1024) = mcells (zo (j + 1)) zn (zi j) zn := by
    rw [m_setO (zfour j j) hj2 (f := 1) (by omega) (x := ⟨[], 1024, false, false⟩) (p := (none, 0)) (by rw [zo_get hj2, zn_get hj2]; rfl), zo_set hj2, zn_set hj2]
  have e2 : (mcells (zo (j + 1)) zn (zi j) zn).set (16 + j * 4 + 1) (.int .i64 1024) = mcells (zo (j + 1)) zn (zi (j + 1)) zn := by
    rw [m_setI (zfour (j + 1) j) hj2 (f := 1) (by omega) (x := ⟨[], 1024, 0, false⟩) (p := (none, 0)) (by rw [zi_get hj2, zn_get hj2]; rfl), zi_set hj2, zn_set hj2]
  have k4 := kt.set (mrow (zo (j + 1)) zn (zi j) zn)
  have c4 := k4.obj
  have k5 := k4.set (mrow (zo (j + 1)) zn (zi (j + 1)) zn)
  (repeat' first
    | refine AWP.seq ?_
    | refine AWP.block ?_
    | (refine AWP.skip ?_; try dsimp only [thn, inBlk])
    | (refine AWP.exit ?_; try simp only [thn, inBlk, if_true, reduceIte, Nat.reduceEqDiff])
    | (refine AWP.ret ?_; try dsimp only [thn, inBlk])
    | (refine AWP.condT ?_ ?_; (focus (simp [go_sem, hj2, hj3]; done)))
    | (refine AWP.condF ?_ ?_; (focus (simp [go_sem, hj2, hj3]; done)))
    | (apply AWP.rE; (focus (simp [go_sem, hj2, hj3]; exact ⟨rfl, rfl⟩)); try dsimp only [thn, inBlk])
    | (apply AWP.dE hmix [.n 0 [1], .n 1 [2], .n 2 [1], .n 3 [2], .n 4 [8], .n 5 [12], .n 6 [13, 9], .n 7 [14], .n 9 [10], .n 10 [16], .w 8 [15] [], .n 11 [17, 11], .n 12 [18], .w 13 [19] []]; (focus kernel_rfl); (focus (simp [go_sem, hj2, hj3]; exact ⟨rfl, rfl⟩)); try dsimp only [thn, inBlk])
    | fail)
  refine AWP.draw hmix [.n 0 [1], .n 1 [2], .n 2 [1], .n 3 [2], .n 4 [8], .n 5 [12], .n 6 [13, 9], .n 7 [14], .n 9 [10], .n 10 [16], .w 8 [15] [], .n 11 [17, 11], .n 12 [18], .w 13 [19] []] (by kernel_rfl) ?_
  refine awpD_writeR 10 (by rfl) (by rfl) (by simp [go_sem, hj2, hj3, c1, l1, b1, e1]; exact ⟨rfl, rfl, rfl⟩) (by rfl) (by rfl) (by simp [go_sem]) (by simp [go_sem, hj2, hj3, c1, l1, b1, e1]; exact ⟨rfl, rfl⟩) (by simp [still, go_sem, hj2, hj3, c1, l1, b1, e1]) ?_
  refine awpD_writeR 2 (by rfl) (by rfl) (by simp [go_sem, hj2, hj3, c4, l2, b2, e2]; exact ⟨rfl, rfl, rfl⟩) (by rfl) (by rfl) (by simp [go_sem]) (by simp [go_sem, hj2, hj3, c4, l2, b2, e2]; exact ⟨rfl, rfl⟩) (by simp [still, go_sem, hj2, hj3, c4, l2, b2, e2]) ?_
  refine awpD_restR (by rfl) (by simp [go_sem]; exact ⟨rfl, rfl, rfl⟩) ?_; try dsimp only [thn, inBlk]
  (repeat' first
    | refine AWP.seq ?_
    | refine AWP.block ?_
    | (refine AWP.skip ?_; try dsimp only [thn, inBlk])
    | (refine AWP.exit ?_; try simp only [thn, inBlk, if_true, reduceIte, Nat.reduceEqDiff])
    | (refine AWP.ret ?_; try dsimp only [thn, inBlk])
    | (refine AWP.condT ?_ ?_; (focus (simp [go_sem, wj]; done)))
    | (refine AWP.condF ?_ ?_; (focus (simp [go_sem, wj]; done)))
    | (apply AWP.rE; (focus (simp [go_sem, wj]; exact ⟨rfl, rfl⟩)); try dsimp only [thn, inBlk])
    | (apply AWP.dE hmix [.n 0 [1], .n 1 [2], .n 2 [1], .n 3 [2], .n 4 [8], .n 5 [12], .n 6 [13, 9], .n 7 [14], .n 9 [10], .n 10 [16], .w 8 [15] [], .n 11 [17, 11], .n 12 [18], .w 13 [19] []]; (focus kernel_rfl); (focus (simp [go_sem, wj]; exact ⟨rfl, rfl⟩)); try dsimp only [thn, inBlk])
    | fail)
  exact ⟨4 - (j + 1), by omega, j + 1, by omega, rfl, by simp [go_sem], k5⟩
end L18
