import Derived.Test.YtomcliklmfkaoaaL15T
import Derived.Test.YtomcliklmfkaoaaAbGrecs
open Go Ab Go.Proofs
namespace L15
set_option autoImplicit false
set_option linter.unusedSimpArgs false
set_option linter.unusedVariables false

/-! ### Parts of patterns -/
structure Pt where
  kd : Int
  rs : List (UInt8 × UInt8)
  ng : Bool

def rg (rs : List (UInt8 × UInt8)) : List Value := (rs.map fun r => [B r.1, B r.2]).flatten
def rng (w : Value) (rs : List (UInt8 × UInt8)) : Chunk := os 48 2 w rs.length (rg rs)
def ptv (p : Pt) (w : Value) : Value := .agg #[.int .i64 p.kd, w, .bool p.ng]
def hit (r : UInt8 × UInt8) (c : UInt8) : Bool := decide (r.1 ≤ c ∧ c ≤ r.2)
def fits (p : Pt) (c : UInt8) : Bool := if p.kd = 1 then true else (p.rs.any (hit · c)) != p.ng

theorem rg_at {h : AHeap} {w : Value} {rs : List (UInt8 × UInt8)} (k : Sl 2 h w rs.length (rg rs)) {j : Nat} (hj : j < rs.length) :
    ∃ i off c e' sz' ti ro, indexAddrP Try.prog 41 w (.int .i64 j) = some (.pointer (some ⟨i, off, none⟩)) ∧ h.obj i = some (.row c e' sz' ti ro) ∧ off + 2 ≤ c.length ∧ (c.drop off).take 2 = [B rs[j].1, B rs[j].2] ∧ c[off]? = some (B rs[j].1) ∧ c[off + 1]? = some (B rs[j].2) := by
  obtain ⟨i, off, c, e', sz', ti, ro, q1, q2, q3, q4, q5⟩ := Sl.record (P := Try.prog) (t := 41) (l := rs.map fun r => [B r.1, B r.2]) Try.underlying41 tsz48 k (by intro x hx; obtain ⟨r, _, rfl⟩ := List.mem_map.1 hx; rfl) (by simp) hj (kd := .i64)
  rw [List.getElem_map] at q4 q5
  exact ⟨i, off, c, e', sz', ti, ro, q1, q2, q3, q4, q5 0 _ rfl, q5 1 _ rfl⟩

theorem leI {a b : UInt8} : ((a.toNat : Int) ≤ (b.toNat : Int)) ↔ a ≤ b := by rw [UInt8.le_iff_toNat_le]; omega

set_option maxHeartbeats 4000000 in
theorem fits_calls {O : Old} {h : AHeap} {R : List Chunk} {p : Pt} {w : Value} {c : UInt8} (k : Own O h R) (hx : ∀ h, Own O h R → Sl 2 h w p.rs.length (rg p.rs)) (hl : p.rs.length ≤ 1000) :
    ACalls Try.prog 17 #[ptv p w, .int .u8 c.toNat] h fun v h' => v = .bool (fits p c) ∧ Own O h' R := by
  obtain ⟨wa, wc, rfl⟩ := (hx h k).val
  obtain ⟨kd, rs, ng⟩ := p
  simp only at hx hl
  refine ACalls.of_awp (args := [ptv ⟨kd, rs, ng⟩ (.slice wa rs.length wc), .int .u8 c.toNat]) (n := 36) Try.func17 rfl rfl (by show 2 ≤ 36; omega) ?_
  simp only [ptv]
  by_cases h1 : kd = 1
  · subst h1
    (repeat' first
      | refine AWP.seq ?_
      | refine AWP.block ?_
      | (refine AWP.skip ?_; try dsimp only [thn, inBlk])
      | (refine AWP.exit ?_; try simp only [thn, inBlk, if_true, reduceIte, Nat.reduceEqDiff])
      | (refine AWP.ret ?_; try dsimp only [thn, inBlk])
      | (refine AWP.condT ?_ ?_; (focus (simp [go_sem]; done)))
      | (refine AWP.condF ?_ ?_; (focus (simp [go_sem]; done)))
      | (apply AWP.rE; (focus (simp [go_sem]; exact ⟨rfl, rfl⟩)); try dsimp only [thn, inBlk])
      | fail)
    simp [bodyQ, thn, inBlk, resA, resV, go_sem]
    exact ⟨rfl, k.push _ |>.tail⟩
  have h1' : (kd == 1) = false := by simpa using h1
  have k1 := k.push (.row [.int .i64 kd, .slice wa rs.length wc, .bool ng] 43 3 true false)
  have c1 := k1.obj
  (repeat' first
    | refine AWP.seq ?_
    | refine AWP.block ?_
    | (refine AWP.skip ?_; try dsimp only [thn, inBlk])
    | (refine AWP.exit ?_; try simp only [thn, inBlk, if_true, reduceIte, Nat.reduceEqDiff])
    | (refine AWP.ret ?_; try dsimp only [thn, inBlk])
    | (refine AWP.condT ?_ ?_; (focus (simp [go_sem, h1', h1]; done)))
    | (refine AWP.condF ?_ ?_; (focus (simp [go_sem, h1', h1]; done)))
    | (apply AWP.rE; (focus (simp [go_sem, h1', h1]; exact ⟨rfl, rfl⟩)); try dsimp only [thn, inBlk])
    | fail)
  refine AWP.loopR [1, 2, 5, 12, 13, 14] (fun m s h' => ∃ j, j ≤ rs.length ∧ m = rs.length - j ∧ s = ⟨36, [(1, .int .u8 c.toNat), (2, .pointer (some ⟨h.next, 0, none⟩)), (5, .bool ((rs.take j).any (hit · c))), (12, .slice wa rs.length wc), (13, .int .i64 rs.length), (14, .int .i64 j)]⟩ ∧
    Own O h' (cell h.next (.row [.int .i64 kd, .slice wa rs.length wc, .bool ng] 43 3 true false) :: R)) ?_ ?_
  · exact ⟨_, 0, by omega, rfl, by simp [go_sem], k1⟩
  rintro m s h' ⟨j, hj, rfl, rfl, kt⟩
  by_cases hj2 : j < rs.length
  rotate_left
  · have hj3 : ¬ (j : Int) < rs.length := by omega
    obtain rfl : j = rs.length := by omega
    rw [List.take_of_length_le (Nat.le_refl _)]
    have c2 := kt.obj
    have e : fits ⟨kd, rs, ng⟩ c = (rs.any (hit · c) != ng) := by simp [fits, h1]
    rw [e]
    (repeat' first
      | refine AWP.seq ?_
      | refine AWP.block ?_
      | (refine AWP.skip ?_; try dsimp only [thn, inBlk])
      | (refine AWP.exit ?_; try simp only [thn, inBlk, if_true, reduceIte, Nat.reduceEqDiff])
      | (refine AWP.ret ?_; try dsimp only [thn, inBlk])
      | (refine AWP.condT ?_ ?_; (focus (simp [go_sem, hj3, c2]; done)))
      | (refine AWP.condF ?_ ?_; (focus (simp [go_sem, hj3, c2]; done)))
      | (apply AWP.rE; (focus (simp [go_sem, hj3, c2]; exact ⟨rfl, rfl⟩)); try dsimp only [thn, inBlk])
      | fail)
    simp [bodyQ, thn, inBlk, resA, resV, go_sem, c2]
    exact ⟨by cases rs.any (hit · c) <;> cases ng <;> rfl, kt.tail⟩
  have hj3 : (j : Int) < rs.length := by omega
  have wj : IntKind.i64.wrap ((j : Int) + 1) = ((j + 1 : Nat) : Int) := by rw [wI64 (by omega) (by omega)]; omega
  obtain ⟨bi, bo, bc, be, bz, bt, br, p0, q0, g3, g2, g0, g1⟩ := rg_at (hx h' kt.tail) hj2
  have hst : (rs.take (j + 1)).any (hit · c) = ((rs.take j).any (hit · c) || hit rs[j] c) := by
    rw [List.take_succ_eq_append_getElem hj2, List.any_append]; simp
  have q0' : (h'.push (.row [.int .u8 0, .int .u8 0] 48 2 true false)).obj bi = some (.row bc be bz bt br) := by
    rw [push_ne _ _ _ (fun e => by rw [e, kt.bnd _ (Nat.le_refl _)] at q0; cases q0)]; exact q0
  have k2 := kt.push (.row [B rs[j].1, B rs[j].2] 48 2 true false)
  generalize rs[j] = r at *
  obtain ⟨ra, rb⟩ := r
  simp only [B] at g2 g0 g1 k2 hst
  have fin : ∀ b : Bool, b = ((rs.take (j + 1)).any (hit · c)) → ∃ m, m < rs.length - j ∧ ∃ j', j' ≤ rs.length ∧ m = rs.length - j' ∧ (⟨36, [(1, .int .u8 c.toNat), (2, .pointer (some ⟨h.next, 0, none⟩)), (5, .bool b), (12, .slice wa rs.length wc), (13, .int .i64 rs.length), (14, .int .i64 ((j + 1 : Nat) : Int))]⟩ : St) = ⟨36, [(1, .int .u8 c.toNat), (2, .pointer (some ⟨h.next, 0, none⟩)), (5, .bool ((rs.take j').any (hit · c))), (12, .slice wa rs.length wc), (13, .int .i64 rs.length), (14, .int .i64 j')]⟩ ∧
      Own O (h'.push (.row [.int .u8 ra.toNat, .int .u8 rb.toNat] 48 2 true false)) (cell h.next (.row [.int .i64 kd, .slice wa rs.length wc, .bool ng] 43 3 true false) :: R) := fun b hb => ⟨rs.length - (j + 1), by omega, j + 1, by omega, rfl, by rw [hb], k2.tail⟩
  cases hin : (rs.take j).any (hit · c) with
  | true =>
    rw [hin] at hst
    (repeat' first
      | refine AWP.seq ?_
      | refine AWP.block ?_
      | (refine AWP.skip ?_; try dsimp only [thn, inBlk])
      | (refine AWP.exit ?_; try simp only [thn, inBlk, if_true, reduceIte, Nat.reduceEqDiff])
      | (refine AWP.ret ?_; try dsimp only [thn, inBlk])
      | (refine AWP.condT ?_ ?_; (focus (simp [go_sem, hj3, p0, q0, q0', g3, g2, wj]; done)))
      | (refine AWP.condF ?_ ?_; (focus (simp [go_sem, hj3, p0, q0, q0', g3, g2, wj]; done)))
      | (apply AWP.rE; (focus (simp [go_sem, hj3, p0, q0, q0', g3, g2, wj]; exact ⟨rfl, rfl⟩)); try dsimp only [thn, inBlk])
      | fail)
    exact fin true (by rw [hst]; rfl)
  | false =>
    rw [hin] at hst
    by_cases ha : ra ≤ c
    · have ha' := leI.2 ha
      have e2 : hit (ra, rb) c = decide (c ≤ rb) := by simp [hit, ha]
      by_cases hb : c ≤ rb
      · have hb' := leI.2 hb
        (repeat' first
          | refine AWP.seq ?_
          | refine AWP.block ?_
          | (refine AWP.skip ?_; try dsimp only [thn, inBlk])
          | (refine AWP.exit ?_; try simp only [thn, inBlk, if_true, reduceIte, Nat.reduceEqDiff])
          | (refine AWP.ret ?_; try dsimp only [thn, inBlk])
          | (refine AWP.condT ?_ ?_; (focus (simp [go_sem, hj3, p0, q0, q0', g3, g2, wj, ha', hb']; done)))
          | (refine AWP.condF ?_ ?_; (focus (simp [go_sem, hj3, p0, q0, q0', g3, g2, wj, ha', hb']; done)))
          | (apply AWP.rE; (focus (simp [go_sem, hj3, p0, q0, q0', g3, g2, wj, ha', hb']; exact ⟨rfl, rfl⟩)); try dsimp only [thn, inBlk])
          | fail)
        exact fin true (by rw [hst, e2]; simp [hb])
      · have hb' : ¬ ((c.toNat : Int) ≤ (rb.toNat : Int)) := fun h => hb (leI.1 h)
        (repeat' first
          | refine AWP.seq ?_
          | refine AWP.block ?_
          | (refine AWP.skip ?_; try dsimp only [thn, inBlk])
          | (refine AWP.exit ?_; try simp only [thn, inBlk, if_true, reduceIte, Nat.reduceEqDiff])
          | (refine AWP.ret ?_; try dsimp only [thn, inBlk])
          | (refine AWP.condT ?_ ?_; (focus (simp [go_sem, hj3, p0, q0, q0', g3, g2, wj, ha', hb']; done)))
          | (refine AWP.condF ?_ ?_; (focus (simp [go_sem, hj3, p0, q0, q0', g3, g2, wj, ha', hb']; done)))
          | (apply AWP.rE; (focus (simp [go_sem, hj3, p0, q0, q0', g3, g2, wj, ha', hb']; exact ⟨rfl, rfl⟩)); try dsimp only [thn, inBlk])
          | fail)
        exact fin false (by rw [hst, e2]; simp [hb])
    · have ha' : ¬ ((ra.toNat : Int) ≤ (c.toNat : Int)) := fun h => ha (leI.1 h)
      have e2 : hit (ra, rb) c = false := by simp [hit, ha]
      (repeat' first
        | refine AWP.seq ?_
        | refine AWP.block ?_
        | (refine AWP.skip ?_; try dsimp only [thn, inBlk])
        | (refine AWP.exit ?_; try simp only [thn, inBlk, if_true, reduceIte, Nat.reduceEqDiff])
        | (refine AWP.ret ?_; try dsimp only [thn, inBlk])
        | (refine AWP.condT ?_ ?_; (focus (simp [go_sem, hj3, p0, q0, q0', g3, g2, wj, ha']; done)))
        | (refine AWP.condF ?_ ?_; (focus (simp [go_sem, hj3, p0, q0, q0', g3, g2, wj, ha']; done)))
        | (apply AWP.rE; (focus (simp [go_sem, hj3, p0, q0, q0', g3, g2, wj, ha']; exact ⟨rfl, rfl⟩)); try dsimp only [thn, inBlk])
        | fail)
      exact fin false (by rw [hst, e2]; rfl)
end L15
