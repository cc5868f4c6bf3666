import Derived.Test.YtomcliklmfkaoaaL15d
open Go Ab Go.Proofs
namespace L15
set_option autoImplicit false
set_option linter.unusedSimpArgs false
set_option linter.unusedVariables false

def matchR (p t : List UInt8) : Bool := decide ((parseR p).2 = 0) && mt (parseR p).1 t

theorem bk_int (bk : Option Nat) : ∃ z : Int, z = (match bk with | none => -1 | some b => (b : Int)) := ⟨_, rfl⟩
def bki : Option Nat → Int
  | none => -1
  | some b => b


set_option maxHeartbeats 16000000 in
theorem match_calls {O : Old} {h : AHeap} {R : List Chunk} {p t : List UInt8} (k : Own O h R) (hp : p.length ≤ 1000000) (ht : t.length ≤ 1000000) :
    ACalls Try.prog 10 #[.string ⟨p.toArray⟩, .string ⟨t.toArray⟩] h fun v h' => v = .bool (matchR p t) ∧ Own O h' R := by
  refine ACalls.of_awp (args := [.string ⟨p.toArray⟩, .string ⟨t.toArray⟩]) (n := 83) Try.func10 rfl rfl (by show 2 ≤ 83; omega) ?_
  (repeat' first
    | refine AWP.seq ?_
    | refine AWP.block ?_
    | (refine AWP.skip ?_; try dsimp only [thn, inBlk])
    | (refine AWP.exit ?_; try simp only [thn, inBlk, if_true, reduceIte, Nat.reduceEqDiff])
    | (refine AWP.ret ?_; try dsimp only [thn, inBlk])
    | (refine AWP.condT ?_ ?_; (focus (simp [go_sem]; done)))
    | (refine AWP.condF ?_ ?_; (focus (simp [go_sem]; done)))
    | (apply AWP.rE; (focus (simp [go_sem]; exact ⟨rfl, rfl⟩)); try dsimp only [thn, inBlk])
    | fail)
  refine AWP.callE (by simp [go_sem]; exact ⟨rfl, rfl, rfl, rfl, rfl⟩) (by kernel_rfl) ?_
  refine (parse_calls k hp).mono ?_
  rintro v h1 ⟨pa, pc, rfl, k1⟩
  have hb := parse_bound p
  unfold matchR
  generalize hpr : parseR p = E at *
  obtain ⟨ps, er⟩ := E
  simp only at hb k1 ⊢
  obtain ⟨hb1, hb2⟩ := hb
  by_cases her : er = 0
  rotate_left
  · have her' : (er != 0) = true := by simpa using her
    have e : decide (er = 0) = false := by simpa using her
    refine awpL_restE (by simp [go_sem]; exact ⟨rfl, rfl⟩) ?_; try dsimp only [thn, inBlk]
    rw [e]
    (repeat' first
      | refine AWP.seq ?_
      | refine AWP.block ?_
      | (refine AWP.skip ?_; try dsimp only [thn, inBlk])
      | (refine AWP.exit ?_; try simp only [thn, inBlk, if_true, reduceIte, Nat.reduceEqDiff])
      | (refine AWP.ret ?_; try dsimp only [thn, inBlk])
      | (refine AWP.condT ?_ ?_; (focus (simp [go_sem, her']; done)))
      | (refine AWP.condF ?_ ?_; (focus (simp [go_sem, her']; done)))
      | (apply AWP.rE; (focus (simp [go_sem, her']; exact ⟨rfl, rfl⟩)); try dsimp only [thn, inBlk])
      | fail)
    simp [bodyQ, thn, inBlk, resA, resV, go_sem]
    exact k1.tail
  subst her
  have e : (decide ((0 : Int) = 0) && mt ps t) = mt ps t := by simp
  rw [e]
  obtain ⟨ws, hw, k2⟩ := grecs_iff.1 k1
  refine awpL_restE (by simp [go_sem]; exact ⟨rfl, rfl⟩) ?_; try dsimp only [thn, inBlk]
  (repeat' first
    | refine AWP.seq ?_
    | refine AWP.block ?_
    | (refine AWP.skip ?_; try dsimp only [thn, inBlk])
    | (refine AWP.exit ?_; try simp only [thn, inBlk, if_true, reduceIte, Nat.reduceEqDiff])
    | (refine AWP.ret ?_; try dsimp only [thn, inBlk])
    | (refine AWP.condT ?_ ?_; (focus (simp [go_sem]; done)))
    | (refine AWP.condF ?_ ?_; (focus (simp [go_sem]; done)))
    | (apply AWP.rE; (focus (simp [go_sem]; exact ⟨rfl, rfl⟩)); try dsimp only [thn, inBlk])
    | fail)
  -- what is read of a part
  have rd : ∀ {hh : AHeap}, Own O hh (os 43 3 (.slice pa ps.length pc) ps.length (gcells prow ps ws).flatten :: (gsubs psub ps ws ++ R)) → ∀ {j : Nat} (hj : j < ps.length), ∃ i off c ti a n, indexAddrP Try.prog 38 (.slice pa ps.length pc) (.int .i64 j) = some (.pointer (some ⟨i, off, none⟩)) ∧ hh.obj i = some (.row c 43 3 ti false) ∧ off + 3 ≤ c.length ∧ (c.drop off).take 3 = [.int .i64 ps[j].kd, .slice a ps[j].rs.length n, .bool ps[j].ng] ∧ c[off]? = some (.int .i64 ps[j].kd) ∧
      ∀ h2, Own O h2 (os 43 3 (.slice pa ps.length pc) ps.length (gcells prow ps ws).flatten :: (gsubs psub ps ws ++ R)) → Sl 2 h2 (.slice a ps[j].rs.length n) ps[j].rs.length (rg ps[j].rs) := by
    intro hh kk j hj
    have hx : ps[j]? = some ps[j] := List.getElem?_eq_getElem hj
    have hwj : ws[j]? = some (ws[j]'(by omega)) := List.getElem?_eq_getElem (by omega)
    obtain ⟨i, off, c, ti, q1, q2, q3, q4, q5⟩ := Own.grec_at (P := Try.prog) (t := 38) (row := prow) (fun x w => rfl) hw kk Try.underlying38 tsz43 hx hwj (kd := .i64)
    have sl : ∀ h2, Own O h2 (os 43 3 (.slice pa ps.length pc) ps.length (gcells prow ps ws).flatten :: (gsubs psub ps ws ++ R)) → Sl 2 h2 (ws[j]'(by omega)) ps[j].rs.length (rg ps[j].rs) := fun h2 k3 =>
      Own.os_sl (Own.grec_sub (sub := psub) (A := [os 43 3 (.slice pa ps.length pc) ps.length (gcells prow ps ws).flatten]) hw k3 hx hwj)
    obtain ⟨a, n, hv⟩ := (sl hh kk).val
    rw [hv] at sl q4
    exact ⟨i, off, c, ti, a, n, q1, q2, q3, q4, q5 0 _ rfl, sl⟩
  have dropAll : ∀ {hh : AHeap}, Own O hh (os 43 3 (.slice pa ps.length pc) ps.length (gcells prow ps ws).flatten :: (gsubs psub ps ws ++ R)) → Own O hh R := fun kk => Own.rest (L := _ :: gsubs psub ps ws) (by simpa using kk)
  have ko : Own O h1 (os 43 3 (.slice pa ps.length pc) ps.length (gcells prow ps ws).flatten :: (gsubs psub ps ws ++ R)) := k2
  refine AWP.loopR [1, 5, 7, 8, 9, 10] (fun m s h' => ∃ (at_ i fr : Nat) (bk : Option Nat), m = (t.length + 1 - fr) * (ps.length + 1) + (ps.length - at_) ∧ MI ps t at_ i fr bk ∧
    s = ⟨83, [(1, .string ⟨t.toArray⟩), (5, .slice pa ps.length pc), (7, .int .i64 at_), (8, .int .i64 fr), (9, .int .i64 (bki bk)), (10, .int .i64 i)]⟩ ∧ Own O h' (os 43 3 (.slice pa ps.length pc) ps.length (gcells prow ps ws).flatten :: (gsubs psub ps ws ++ R))) ?_ ?_
  · exact ⟨_, 0, 0, 0, none, rfl, MI.start ps t, by simp [go_sem, bki], ko⟩
  rintro m s h' ⟨at_, i, fr, bk, rfl, mi, rfl, kt⟩
  have hma := mi.ha
  have hmi := mi.hi
  have hmf := mi.hf
  by_cases hi : i < t.length
  rotate_left
  · -- the text's end
    have hi' : ¬ (i : Int) < t.length := by omega
    have hfin := mi.fin (by omega)
    (repeat' first
      | refine AWP.seq ?_
      | refine AWP.block ?_
      | (refine AWP.skip ?_; try dsimp only [thn, inBlk])
      | (refine AWP.exit ?_; try simp only [thn, inBlk, if_true, reduceIte, Nat.reduceEqDiff])
      | (refine AWP.ret ?_; try dsimp only [thn, inBlk])
      | (refine AWP.condT ?_ ?_; (focus (simp [go_sem, hi, hi']; done)))
      | (refine AWP.condF ?_ ?_; (focus (simp [go_sem, hi, hi']; done)))
      | (apply AWP.rE; (focus (simp [go_sem, hi, hi']; exact ⟨rfl, rfl⟩)); try dsimp only [thn, inBlk])
      | fail)
    refine AWP.loopR [5, 7] (fun m s h' => ∃ (a2 : Nat), m = ps.length - a2 ∧ a2 ≤ ps.length ∧ mt ps t = mt (ps.drop a2) [] ∧ s = ⟨83, [(5, .slice pa ps.length pc), (7, .int .i64 a2)]⟩ ∧ Own O h' (os 43 3 (.slice pa ps.length pc) ps.length (gcells prow ps ws).flatten :: (gsubs psub ps ws ++ R))) ?_ ?_
    · exact ⟨_, at_, rfl, hma, hfin, by simp [go_sem], kt⟩
    rintro m s h9 ⟨a2, rfl, ha2, hm2, rfl, kt⟩
    by_cases hlt : a2 < ps.length
    · have hlt' : (a2 : Int) < ps.length := by omega
      have wa : IntKind.i64.wrap ((a2 : Int) + 1) = ((a2 + 1 : Nat) : Int) := by rw [wI64 (by omega) (by omega)]; omega
      obtain ⟨bi, bo, bc, ti, wa', wn, q1, q2, q3, q4, q5, q6⟩ := rd kt hlt
      have hne : ¬ ((a2 : Int) = ps.length) := by omega
      have hne2 : ((a2 : Int) == (ps.length : Int)) = false := by simpa using hne
      rw [List.drop_eq_getElem_cons hlt] at hm2
      by_cases h3 : ps[a2].kd = 3
      · rw [mt_runs h3] at hm2
        have h3' : (ps[a2].kd == 3) = true := by simpa using h3
        generalize ps[a2] = q at *
        (repeat' first
          | refine AWP.seq ?_
          | refine AWP.block ?_
          | (refine AWP.skip ?_; try dsimp only [thn, inBlk])
          | (refine AWP.exit ?_; try simp only [thn, inBlk, if_true, reduceIte, Nat.reduceEqDiff])
          | (refine AWP.ret ?_; try dsimp only [thn, inBlk])
          | (refine AWP.condT ?_ ?_; (focus (simp [go_sem, hlt, hlt', q1, q2, q5, h3', wa]; done)))
          | (refine AWP.condF ?_ ?_; (focus (simp [go_sem, hlt, hlt', q1, q2, q5, h3', wa]; done)))
          | (apply AWP.rE; (focus (simp [go_sem, hlt, hlt', q1, q2, q5, h3', wa]; exact ⟨rfl, rfl⟩)); try dsimp only [thn, inBlk])
          | fail)
        exact ⟨ps.length - (a2 + 1), by omega, a2 + 1, rfl, by omega, hm2, by simp [go_sem], kt⟩
      · rw [mt_none h3] at hm2
        have h3' : (ps[a2].kd == 3) = false := by simpa using h3
        generalize ps[a2] = q at *
        rw [hm2]
        (repeat' first
          | refine AWP.seq ?_
          | refine AWP.block ?_
          | (refine AWP.skip ?_; try dsimp only [thn, inBlk])
          | (refine AWP.exit ?_; try simp only [thn, inBlk, if_true, reduceIte, Nat.reduceEqDiff])
          | (refine AWP.ret ?_; try dsimp only [thn, inBlk])
          | (refine AWP.condT ?_ ?_; (focus (simp [go_sem, hlt, hlt', q1, q2, q5, h3', hne, hne2]; done)))
          | (refine AWP.condF ?_ ?_; (focus (simp [go_sem, hlt, hlt', q1, q2, q5, h3', hne, hne2]; done)))
          | (apply AWP.rE; (focus (simp [go_sem, hlt, hlt', q1, q2, q5, h3', hne, hne2]; exact ⟨rfl, rfl⟩)); try dsimp only [thn, inBlk])
          | fail)
        simp [bodyQ, thn, inBlk, resA, resV, go_sem]
        exact dropAll kt
    · have hlt' : ¬ (a2 : Int) < ps.length := by omega
      obtain rfl : a2 = ps.length := by omega
      rw [List.drop_length] at hm2
      rw [hm2]
      (repeat' first
        | refine AWP.seq ?_
        | refine AWP.block ?_
        | (refine AWP.skip ?_; try dsimp only [thn, inBlk])
        | (refine AWP.exit ?_; try simp only [thn, inBlk, if_true, reduceIte, Nat.reduceEqDiff])
        | (refine AWP.ret ?_; try dsimp only [thn, inBlk])
        | (refine AWP.condT ?_ ?_; (focus (simp [go_sem, hlt']; done)))
        | (refine AWP.condF ?_ ?_; (focus (simp [go_sem, hlt']; done)))
        | (apply AWP.rE; (focus (simp [go_sem, hlt']; exact ⟨rfl, rfl⟩)); try dsimp only [thn, inBlk])
        | fail)
      simp [bodyQ, thn, inBlk, resA, resV, go_sem]
      exact ⟨rfl, dropAll kt⟩
  have hi' : (i : Int) < t.length := by omega
  have ic : indexP Try.prog 9 (.string ⟨t.toArray⟩) (.int .i64 i) = some (.int .u8 t[i].toNat) := str_index Try.underlying9 hi
  have hti : t[i]? = some t[i] := List.getElem?_eq_getElem hi
  generalize t[i] = c at *
  by_cases hlt : at_ < ps.length
  · have hlt' : (at_ : Int) < ps.length := by omega
    have wa : IntKind.i64.wrap ((at_ : Int) + 1) = ((at_ + 1 : Nat) : Int) := by rw [wI64 (by omega) (by omega)]; omega
    have wi : IntKind.i64.wrap ((i : Int) + 1) = ((i + 1 : Nat) : Int) := by rw [wI64 (by omega) (by omega)]; omega
    obtain ⟨bi, bo, bc, ti, wa', wn, q1, q2, q3, q4, q5, q6⟩ := rd kt hlt
    have hpx : ps[at_]? = some ps[at_] := List.getElem?_eq_getElem hlt
    have hrl := hb2 _ (List.getElem_mem hlt)
    by_cases h3 : ps[at_].kd = 3
    · have mr := mi.run hpx h3
      have h3' : (ps[at_].kd == 3) = true := by simpa using h3
      generalize ps[at_] = q at *
      (repeat' first
        | refine AWP.seq ?_
        | refine AWP.block ?_
        | (refine AWP.skip ?_; try dsimp only [thn, inBlk])
        | (refine AWP.exit ?_; try simp only [thn, inBlk, if_true, reduceIte, Nat.reduceEqDiff])
        | (refine AWP.ret ?_; try dsimp only [thn, inBlk])
        | (refine AWP.condT ?_ ?_; (focus (simp [go_sem, hi, hi', hlt, hlt', q1, q2, q5, h3', wa]; done)))
        | (refine AWP.condF ?_ ?_; (focus (simp [go_sem, hi, hi', hlt, hlt', q1, q2, q5, h3', wa]; done)))
        | (apply AWP.rE; (focus (simp [go_sem, hi, hi', hlt, hlt', q1, q2, q5, h3', wa]; exact ⟨rfl, rfl⟩)); try dsimp only [thn, inBlk])
        | fail)
      refine ⟨(t.length + 1 - i) * (ps.length + 1) + (ps.length - (at_ + 1)), ?_, at_ + 1, i, i, some (at_ + 1), rfl, mr, by simp [go_sem, bki], kt⟩
      have := Nat.mul_le_mul_right (ps.length + 1) (show t.length + 1 - i ≤ t.length + 1 - fr by omega)
      omega
    · have h3' : (ps[at_].kd == 3) = false := by simpa using h3
      generalize ps[at_] = q at *
      (repeat' first
        | refine AWP.seq ?_
        | refine AWP.block ?_
        | (refine AWP.skip ?_; try dsimp only [thn, inBlk])
        | (refine AWP.exit ?_; try simp only [thn, inBlk, if_true, reduceIte, Nat.reduceEqDiff])
        | (refine AWP.ret ?_; try dsimp only [thn, inBlk])
        | (refine AWP.condT ?_ ?_; (focus (simp [go_sem, hi, hi', hlt, hlt', q1, q2, q5, h3']; done)))
        | (refine AWP.condF ?_ ?_; (focus (simp [go_sem, hi, hi', hlt, hlt', q1, q2, q5, h3']; done)))
        | (apply AWP.rE; (focus (simp [go_sem, hi, hi', hlt, hlt', q1, q2, q5, h3']; exact ⟨rfl, rfl⟩)); try dsimp only [thn, inBlk])
        | fail)
      refine AWP.draw hmix [.n 0 [7], .n 1 [5], .n 2 [41], .n 3 [40, 42], .n 4 [43], .n 5 [5, 44], .n 6 [7, 44], .n 7 [45, 46, 44], .n 8 [47, 44], .n 9 [1, 44], .n 10 [10, 44], .n 11 [49, 50, 44], .w 12 [48, 51, 44] [], .n 13 [44, 52], .n 14 [53]] (by kernel_rfl) ?_
      refine awpD_callR 12 (by rfl) (by rfl) (by simp [go_sem, hlt, hlt', q1, q2, q3, q4, q5, ic]; exact ⟨rfl, rfl, rfl⟩) (by rfl) (by rfl) (by simp [go_sem]) (by simp [go_sem, hlt, hlt', q1, q2, q3, q4, q5, ic]; exact ⟨rfl, rfl⟩) (by kernel_rfl) ?_
      refine (fits_calls (p := q) (c := c) kt q6 (by omega)).mono ?_
      rintro v h5 ⟨rfl, k5⟩
      refine ⟨by simp [still], ?_⟩
      cases hft : fits q c with
      | true =>
        have ms := mi.step hpx h3 hti hft
        refine awpD_restR (by rfl) (by simp [go_sem]; exact ⟨rfl, rfl, rfl⟩) ?_; try dsimp only [thn, inBlk]
        (repeat' first
          | refine AWP.seq ?_
          | refine AWP.block ?_
          | (refine AWP.skip ?_; try dsimp only [thn, inBlk])
          | (refine AWP.exit ?_; try simp only [thn, inBlk, if_true, reduceIte, Nat.reduceEqDiff])
          | (refine AWP.ret ?_; try dsimp only [thn, inBlk])
          | (refine AWP.condT ?_ ?_; (focus (simp [go_sem, wa, wi]; done)))
          | (refine AWP.condF ?_ ?_; (focus (simp [go_sem, wa, wi]; done)))
          | (apply AWP.rE; (focus (simp [go_sem, wa, wi]; exact ⟨rfl, rfl⟩)); try dsimp only [thn, inBlk])
          | fail)
        refine ⟨(t.length + 1 - fr) * (ps.length + 1) + (ps.length - (at_ + 1)), by omega, at_ + 1, i + 1, fr, bk, rfl, ms, by simp [go_sem, bki], k5⟩
      | false =>
        have hstk := mt_stuck (ps := ps) (at_ := at_) hi (.inr ⟨q, c, hpx, h3, hti, hft⟩)
        refine awpD_restR (by rfl) (by simp [go_sem]; exact ⟨rfl, rfl, rfl⟩) ?_; try dsimp only [thn, inBlk]
        (repeat' first
          | refine AWP.seq ?_
          | refine AWP.block ?_
          | (refine AWP.skip ?_; try dsimp only [thn, inBlk])
          | (refine AWP.exit ?_; try simp only [thn, inBlk, if_true, reduceIte, Nat.reduceEqDiff])
          | (refine AWP.ret ?_; try dsimp only [thn, inBlk])
          | (refine AWP.condT ?_ ?_; (focus (simp [go_sem]; done)))
          | (refine AWP.condF ?_ ?_; (focus (simp [go_sem]; done)))
          | (apply AWP.rE; (focus (simp [go_sem]; exact ⟨rfl, rfl⟩)); try dsimp only [thn, inBlk])
          | fail)
        cases bk with
        | none =>
          have hfl := mi.fail hstk
          rw [hfl]
          (repeat' first
            | refine AWP.seq ?_
            | refine AWP.block ?_
            | (refine AWP.skip ?_; try dsimp only [thn, inBlk])
            | (refine AWP.exit ?_; try simp only [thn, inBlk, if_true, reduceIte, Nat.reduceEqDiff])
            | (refine AWP.ret ?_; try dsimp only [thn, inBlk])
            | (refine AWP.condT ?_ ?_; (focus (simp [go_sem, bki]; done)))
            | (refine AWP.condF ?_ ?_; (focus (simp [go_sem, bki]; done)))
            | (apply AWP.rE; (focus (simp [go_sem, bki]; exact ⟨rfl, rfl⟩)); try dsimp only [thn, inBlk])
            | fail)
          simp [bodyQ, thn, inBlk, resA, resV, go_sem]
          exact dropAll k5
        | some b =>
          have mb := mi.back hi hstk
          have wf : IntKind.i64.wrap ((fr : Int) + 1) = ((fr + 1 : Nat) : Int) := by rw [wI64 (by omega) (by omega)]; omega
          have hb0 : (0 : Int) ≤ (b : Int) := by omega
          (repeat' first
            | refine AWP.seq ?_
            | refine AWP.block ?_
            | (refine AWP.skip ?_; try dsimp only [thn, inBlk])
            | (refine AWP.exit ?_; try simp only [thn, inBlk, if_true, reduceIte, Nat.reduceEqDiff])
            | (refine AWP.ret ?_; try dsimp only [thn, inBlk])
            | (refine AWP.condT ?_ ?_; (focus (simp [go_sem, wf, hb0, bki]; done)))
            | (refine AWP.condF ?_ ?_; (focus (simp [go_sem, wf, hb0, bki]; done)))
            | (apply AWP.rE; (focus (simp [go_sem, wf, hb0, bki]; exact ⟨rfl, rfl⟩)); try dsimp only [thn, inBlk])
            | fail)
          refine ⟨(t.length + 1 - (fr + 1)) * (ps.length + 1) + (ps.length - b), ?_, b, fr + 1, fr + 1, some b, rfl, mb, by simp [go_sem, bki], k5⟩
          have e1 : t.length + 1 - fr = (t.length + 1 - (fr + 1)) + 1 := by omega
          rw [e1, Nat.succ_mul]
          omega
  · have hlt' : ¬ (at_ : Int) < ps.length := by omega
    have hstk := mt_stuck (ps := ps) (at_ := at_) hi (.inl (List.getElem?_eq_none (by omega)))
    (repeat' first
      | refine AWP.seq ?_
      | refine AWP.block ?_
      | (refine AWP.skip ?_; try dsimp only [thn, inBlk])
      | (refine AWP.exit ?_; try simp only [thn, inBlk, if_true, reduceIte, Nat.reduceEqDiff])
      | (refine AWP.ret ?_; try dsimp only [thn, inBlk])
      | (refine AWP.condT ?_ ?_; (focus (simp [go_sem, hi, hi', hlt, hlt']; done)))
      | (refine AWP.condF ?_ ?_; (focus (simp [go_sem, hi, hi', hlt, hlt']; done)))
      | (apply AWP.rE; (focus (simp [go_sem, hi, hi', hlt, hlt']; exact ⟨rfl, rfl⟩)); try dsimp only [thn, inBlk])
      | fail)
    (apply AWP.dE hmix [.n 0 [7], .n 1 [5], .n 2 [41], .n 3 [40, 42], .n 4 [43], .n 5 [5, 44], .n 6 [7, 44], .n 7 [45, 46, 44], .n 8 [47, 44], .n 9 [1, 44], .n 10 [10, 44], .n 11 [49, 50, 44], .w 12 [48, 51, 44] [], .n 13 [44, 52], .n 14 [53]]; (focus kernel_rfl); (focus (simp [go_sem, hlt, hlt']; exact ⟨rfl, rfl⟩)); try dsimp only [thn, inBlk])
    (repeat' first
      | refine AWP.seq ?_
      | refine AWP.block ?_
      | (refine AWP.skip ?_; try dsimp only [thn, inBlk])
      | (refine AWP.exit ?_; try simp only [thn, inBlk, if_true, reduceIte, Nat.reduceEqDiff])
      | (refine AWP.ret ?_; try dsimp only [thn, inBlk])
      | (refine AWP.condT ?_ ?_; (focus (simp [go_sem]; done)))
      | (refine AWP.condF ?_ ?_; (focus (simp [go_sem]; done)))
      | (apply AWP.rE; (focus (simp [go_sem]; exact ⟨rfl, rfl⟩)); try dsimp only [thn, inBlk])
      | fail)
    cases bk with
    | none =>
      have hfl := mi.fail hstk
      rw [hfl]
      (repeat' first
        | refine AWP.seq ?_
        | refine AWP.block ?_
        | (refine AWP.skip ?_; try dsimp only [thn, inBlk])
        | (refine AWP.exit ?_; try simp only [thn, inBlk, if_true, reduceIte, Nat.reduceEqDiff])
        | (refine AWP.ret ?_; try dsimp only [thn, inBlk])
        | (refine AWP.condT ?_ ?_; (focus (simp [go_sem, bki]; done)))
        | (refine AWP.condF ?_ ?_; (focus (simp [go_sem, bki]; done)))
        | (apply AWP.rE; (focus (simp [go_sem, bki]; exact ⟨rfl, rfl⟩)); try dsimp only [thn, inBlk])
        | fail)
      simp [bodyQ, thn, inBlk, resA, resV, go_sem]
      exact dropAll kt
    | some b =>
      have mb := mi.back hi hstk
      have wf : IntKind.i64.wrap ((fr : Int) + 1) = ((fr + 1 : Nat) : Int) := by rw [wI64 (by omega) (by omega)]; omega
      have hb0 : (0 : Int) ≤ (b : Int) := by omega
      (repeat' first
        | refine AWP.seq ?_
        | refine AWP.block ?_
        | (refine AWP.skip ?_; try dsimp only [thn, inBlk])
        | (refine AWP.exit ?_; try simp only [thn, inBlk, if_true, reduceIte, Nat.reduceEqDiff])
        | (refine AWP.ret ?_; try dsimp only [thn, inBlk])
        | (refine AWP.condT ?_ ?_; (focus (simp [go_sem, wf, hb0, bki]; done)))
        | (refine AWP.condF ?_ ?_; (focus (simp [go_sem, wf, hb0, bki]; done)))
        | (apply AWP.rE; (focus (simp [go_sem, wf, hb0, bki]; exact ⟨rfl, rfl⟩)); try dsimp only [thn, inBlk])
        | fail)
      refine ⟨(t.length + 1 - (fr + 1)) * (ps.length + 1) + (ps.length - b), ?_, b, fr + 1, fr + 1, some b, rfl, mb, by simp [go_sem, bki], kt⟩
      have e1 : t.length + 1 - fr = (t.length + 1 - (fr + 1)) + 1 := by omega
      rw [e1, Nat.succ_mul]
      omega
end L15
