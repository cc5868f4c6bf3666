import Derived.Test.YtomcliklmfkaoaaL15l
open Go Ab Go.Proofs
namespace L15
set_option autoImplicit false
set_option linter.unusedSimpArgs false
set_option linter.unusedVariables false

theorem rpt_at {O : Old} {h : AHeap} {R : List Chunk} {v : Value} {ps : List Pt} (k : Own O h (rps v ps :: R)) {j : Nat} (hj : j < ps.length) :
    ∃ i off c e' sz ti ro, indexAddrP Try.prog 34 v (.int .i64 j) = some (.pointer (some ⟨i, off, none⟩)) ∧ h.obj i = some (.row c e' sz ti ro) ∧ c[off]? = some (.bool (decide (ps[j].kd = 3))) ∧
      (∀ x : UInt8, c[off + 1 + x.toNat]? = some (.bool (fits ps[j] x))) ∧ c[off + 257]? = some (.bool (decide (ps[j].kd = 0))) ∧ c[off + 258]? = some (.int .u8 (rb ps[j]).toNat) := by
  obtain ⟨i, off, c, e', sz', ti, ro, q1, q2, q3, q4, q5⟩ := Sl.record (P := Try.prog) (t := 34) (l := ps.map rpt) Try.underlying34 tsz47 k.os_sl (by intro x hx; obtain ⟨r, _, rfl⟩ := List.mem_map.1 hx; exact rp_len r) (by simp) hj (kd := .i64)
  rw [List.getElem_map] at q4 q5
  refine ⟨i, off, c, e', sz', ti, ro, q1, q2, q5 0 _ rec_0, fun x => ?_, q5 257 _ rec_257, q5 258 _ rec_258⟩
  have hx := x.toNat_lt
  rw [Nat.add_assoc]
  have := rec_in (g := fits ps[j]) (r := decide (ps[j].kd = 3)) (p := decide (ps[j].kd = 0)) (b := rb ps[j]) (i := x.toNat) (by omega)
  rw [UInt8.ofNat_toNat] at this
  exact q5 _ _ this

set_option maxHeartbeats 16000000 in
theorem refPlain_calls {O : Old} {h : AHeap} {R : List Chunk} {p : List UInt8} (k : Own O h R) (hp : p.length ≤ 1000000) :
    ACalls Try.prog 15 #[.string ⟨p.toArray⟩] h fun v h' => v = .tuple #[.string ⟨(plainR p).1.toArray⟩, .bool (plainR p).2] ∧ Own O h' R := by
  refine ACalls.of_awp (args := [.string ⟨p.toArray⟩]) (n := 38) Try.func15 rfl rfl (by show 1 ≤ 38; omega) ?_
  (repeat' first
    | refine AWP.seq ?_
    | refine AWP.block ?_
    | (refine AWP.skip ?_; try dsimp only [thn, inBlk])
    | (refine AWP.exit ?_; try simp only [thn, inBlk, if_true, reduceIte, Nat.reduceEqDiff])
    | (refine AWP.ret ?_; try dsimp only [thn, inBlk])
    | (refine AWP.condT ?_ ?_; (focus (simp [go_sem]; done)))
    | (refine AWP.condF ?_ ?_; (focus (simp [go_sem]; done)))
    | (apply AWP.rE; (focus (simp [go_sem]; exact ⟨rfl, rfl⟩)); try dsimp only [thn, inBlk])
    | fail)
  refine AWP.callE (by simp [go_sem]; exact ⟨rfl, rfl, rfl, rfl, rfl⟩) (by kernel_rfl) ?_
  refine (refParse_calls k hp).mono ?_
  rintro v h1 ⟨pa, pc, rfl, k1⟩
  have hb := parse_bound p
  unfold plainR
  generalize hpr : parseR p = E at *
  obtain ⟨ps, er⟩ := E
  simp only at hb k1 ⊢
  obtain ⟨hb1, hb2⟩ := hb
  refine awpL_restE (by simp [go_sem]; exact ⟨rfl, rfl⟩) ?_; try dsimp only [thn, inBlk]
  (repeat' first
    | refine AWP.seq ?_
    | refine AWP.block ?_
    | (refine AWP.skip ?_; try dsimp only [thn, inBlk])
    | (refine AWP.exit ?_; try simp only [thn, inBlk, if_true, reduceIte, Nat.reduceEqDiff])
    | (refine AWP.ret ?_; try dsimp only [thn, inBlk])
    | (refine AWP.condT ?_ ?_; (focus (simp [go_sem]; done)))
    | (refine AWP.condF ?_ ?_; (focus (simp [go_sem]; done)))
    | (apply AWP.rE; (focus (simp [go_sem]; exact ⟨rfl, rfl⟩)); try dsimp only [thn, inBlk])
    | fail)
  have k3 : Own O _ (ob 5 (.slice (some ⟨h1.next, 0, none⟩) 0 0) [] :: _) := (k1.push (.row [] 5 1 true false)).row_any (n := 0) rfl
  refine AWP.loopR [4, 5, 6, 7] (fun m s h' => ∃ (j : Nat) (a : Option Addr) (c : Nat), j ≤ ps.length ∧ m = ps.length - j ∧ (ps.take j).all (fun q => decide (q.kd = 0)) = true ∧
    s = ⟨38, [(4, .slice pa ps.length pc), (5, .int .i64 er), (6, .slice a j c), (7, .int .i64 j)]⟩ ∧ Own O h' (ob 5 (.slice a j c) ((ps.take j).map pb) :: rps (.slice pa ps.length pc) ps :: R)) ?_ ?_
  · exact ⟨_, 0, some ⟨h1.next, 0, none⟩, 0, by omega, rfl, by simp, by simp [go_sem], by simpa using k3⟩
  rintro m s h' ⟨j, oa, oc, hj, rfl, hall, rfl, kt⟩
  have hjl : ((ps.take j).map pb).length = j := by simp; omega
  by_cases hlt : j < ps.length
  · have hlt' : (j : Int) < ps.length := by omega
    have wj : IntKind.i64.wrap ((j : Int) + 1) = ((j + 1 : Nat) : Int) := by rw [wI64 (by omega) (by omega)]; omega
    obtain ⟨bi, bo, bc, be, bz, ti, br, q1, q2, q3, q4, q5, q6⟩ := rpt_at kt.b1 hlt
    have hst : ps.take (j + 1) = ps.take j ++ [ps[j]] := List.take_succ_eq_append_getElem hlt
    have hmem : ps[j] ∈ ps := List.getElem_mem hlt
    by_cases h0 : ps[j].kd = 0
    · have hrb : rb ps[j] = pb ps[j] := by unfold rb; rw [if_pos h0]
      obtain ⟨na, nc, h7, e7, k7⟩ := kt.appB1 (P := Try.prog) (t := 28) (xt := 28) (c := pb ps[j]) (i := h'.next) Try.underlying28 tsz5 tby5 tz5 nI28 rfl (by rw [hjl]; omega)
      rw [hjl] at e7 k7
      rw [hrb] at q6
      rw [h0] at q5
      simp only [decide_true] at q5
      (repeat' first
        | refine AWP.seq ?_
        | refine AWP.block ?_
        | (refine AWP.skip ?_; try dsimp only [thn, inBlk])
        | (refine AWP.exit ?_; try simp only [thn, inBlk, if_true, reduceIte, Nat.reduceEqDiff])
        | (refine AWP.ret ?_; try dsimp only [thn, inBlk])
        | (refine AWP.condT ?_ ?_; (focus (simp [go_sem, hlt, hlt', q1, q2, q5, q6, e7, wj]; done)))
        | (refine AWP.condF ?_ ?_; (focus (simp [go_sem, hlt, hlt', q1, q2, q5, q6, e7, wj]; done)))
        | (apply AWP.rE; (focus (simp [go_sem, hlt, hlt', q1, q2, q5, q6, e7, wj]; exact ⟨rfl, rfl⟩)); try dsimp only [thn, inBlk])
        | fail)
      refine ⟨ps.length - (j + 1), by omega, j + 1, na, nc, by omega, rfl, ?_, by simp [go_sem], ?_⟩
      · rw [hst, List.all_append, hall]; simp [h0]
      · rw [hst, List.map_append]
        exact k7
    · have e : ¬ (ps.all (fun q => decide (q.kd = 0)) = true ∧ er = 0) := fun ⟨h, _⟩ => h0 (by simpa using List.all_eq_true.1 h _ hmem)
      rw [if_neg e]
      rw [decide_eq_false h0] at q5
      (repeat' first
        | refine AWP.seq ?_
        | refine AWP.block ?_
        | (refine AWP.skip ?_; try dsimp only [thn, inBlk])
        | (refine AWP.exit ?_; try simp only [thn, inBlk, if_true, reduceIte, Nat.reduceEqDiff])
        | (refine AWP.ret ?_; try dsimp only [thn, inBlk])
        | (refine AWP.condT ?_ ?_; (focus (simp [go_sem, hlt, hlt', q1, q2, q5]; done)))
        | (refine AWP.condF ?_ ?_; (focus (simp [go_sem, hlt, hlt', q1, q2, q5]; done)))
        | (apply AWP.rE; (focus (simp [go_sem, hlt, hlt', q1, q2, q5]; exact ⟨rfl, rfl⟩)); try dsimp only [thn, inBlk])
        | fail)
      simp [bodyQ, thn, inBlk, resA, resV, go_sem]
      exact kt.tail.tail
  · have hlt' : ¬ (j : Int) < ps.length := by omega
    obtain rfl : j = ps.length := by omega
    rw [List.take_of_length_le (Nat.le_refl _)] at kt hall
    have s1 := kt.ob_bytes.str (P := Try.prog) (t := 28) (e := 5) (u := 9) Try.underlying28 Try.underlying5 Try.underlying9
    by_cases her : er = 0
    · rw [if_pos ⟨hall, her⟩]
      have her' : (er != 0) = false := by simpa using her
      have hml : (ps.map pb).length = ps.length := by simp
      (repeat' first
        | refine AWP.seq ?_
        | refine AWP.block ?_
        | (refine AWP.skip ?_; try dsimp only [thn, inBlk])
        | (refine AWP.exit ?_; try simp only [thn, inBlk, if_true, reduceIte, Nat.reduceEqDiff])
        | (refine AWP.ret ?_; try dsimp only [thn, inBlk])
        | (refine AWP.condT ?_ ?_; (focus (simp [go_sem, hlt, hlt', her', s1]; done)))
        | (refine AWP.condF ?_ ?_; (focus (simp [go_sem, hlt, hlt', her', s1]; done)))
        | (apply AWP.rE; (focus (simp [go_sem, hlt, hlt', her', s1]; exact ⟨rfl, rfl⟩)); try dsimp only [thn, inBlk])
        | fail)
      simp [bodyQ, thn, inBlk, resA, resV, go_sem]
      exact kt.tail.tail
    · have e : ¬ (ps.all (fun q => decide (q.kd = 0)) = true ∧ er = 0) := fun ⟨_, h⟩ => her h
      have her' : (er != 0) = true := by simpa using her
      rw [if_neg e]
      (repeat' first
        | refine AWP.seq ?_
        | refine AWP.block ?_
        | (refine AWP.skip ?_; try dsimp only [thn, inBlk])
        | (refine AWP.exit ?_; try simp only [thn, inBlk, if_true, reduceIte, Nat.reduceEqDiff])
        | (refine AWP.ret ?_; try dsimp only [thn, inBlk])
        | (refine AWP.condT ?_ ?_; (focus (simp [go_sem, hlt, hlt', her']; done)))
        | (refine AWP.condF ?_ ?_; (focus (simp [go_sem, hlt, hlt', her']; done)))
        | (apply AWP.rE; (focus (simp [go_sem, hlt, hlt', her']; exact ⟨rfl, rfl⟩)); try dsimp only [thn, inBlk])
        | fail)
      simp [bodyQ, thn, inBlk, resA, resV, go_sem]
      exact kt.tail.tail

set_option maxHeartbeats 16000000 in
theorem checks_calls {h : AHeap} {p : List UInt8} (hb : h.base = h.next) (hp : p.length ≤ 140737488355328) :
    ACalls Try.prog 8 #[.string ⟨p.toArray⟩] h fun r _ => r = .bool true := by
  refine Own.of_wf fun k0 => ?_
  refine ACalls.of_awp (args := [.string ⟨p.toArray⟩]) (n := 43) Try.func8 rfl rfl (by show 1 ≤ 43; omega) ?_
  (repeat' first
    | refine AWP.seq ?_
    | refine AWP.block ?_
    | (refine AWP.skip ?_; try dsimp only [thn, inBlk])
    | (refine AWP.exit ?_; try simp only [thn, inBlk, if_true, reduceIte, Nat.reduceEqDiff])
    | (refine AWP.ret ?_; try dsimp only [thn, inBlk])
    | (refine AWP.condT ?_ ?_; (focus (simp [go_sem]; done)))
    | (refine AWP.condF ?_ ?_; (focus (simp [go_sem]; done)))
    | (apply AWP.rE; (focus (simp [go_sem]; exact ⟨rfl, rfl⟩)); try dsimp only [thn, inBlk])
    | fail)
  refine AWP.callE (by simp [go_sem]; exact ⟨rfl, rfl, rfl, rfl, rfl⟩) (by kernel_rfl) ?_
  refine (speaks_calls k0).mono ?_
  rintro r h1 ⟨rfl, k1⟩
  by_cases c1 : 1000 < p.length
  · have d1 : (1000 : Int) < p.length := by omega
    refine awpL_restE (by simp [go_sem]; exact ⟨rfl, rfl⟩) ?_; try dsimp only [thn, inBlk]
    (repeat' first
      | refine AWP.seq ?_
      | refine AWP.block ?_
      | (refine AWP.skip ?_; try dsimp only [thn, inBlk])
      | (refine AWP.exit ?_; try simp only [thn, inBlk, if_true, reduceIte, Nat.reduceEqDiff])
      | (refine AWP.ret ?_; try dsimp only [thn, inBlk])
      | (refine AWP.condT ?_ ?_; (focus (simp [go_sem, d1, c1]; done)))
      | (refine AWP.condF ?_ ?_; (focus (simp [go_sem, d1, c1]; done)))
      | (apply AWP.rE; (focus (simp [go_sem, d1, c1]; exact ⟨rfl, rfl⟩)); try dsimp only [thn, inBlk])
      | fail)
    simp [bodyQ, thn, inBlk, resA, resV, go_sem]
  have d1 : ¬ (1000 : Int) < p.length := by omega
  refine awpL_restE (by simp [go_sem]; exact ⟨rfl, rfl⟩) ?_; try dsimp only [thn, inBlk]
  (repeat' first
    | refine AWP.seq ?_
    | refine AWP.block ?_
    | (refine AWP.skip ?_; try dsimp only [thn, inBlk])
    | (refine AWP.exit ?_; try simp only [thn, inBlk, if_true, reduceIte, Nat.reduceEqDiff])
    | (refine AWP.ret ?_; try dsimp only [thn, inBlk])
    | (refine AWP.condT ?_ ?_; (focus (simp [go_sem, d1, c1]; done)))
    | (refine AWP.condF ?_ ?_; (focus (simp [go_sem, d1, c1]; done)))
    | (apply AWP.rE; (focus (simp [go_sem, d1, c1]; exact ⟨rfl, rfl⟩)); try dsimp only [thn, inBlk])
    | fail)
  refine AWP.callE (by simp [go_sem]; exact ⟨rfl, rfl, rfl, rfl, rfl⟩) (by kernel_rfl) ?_
  refine (refParse_calls k1 (by omega)).mono ?_
  rintro r h2 ⟨pa, pc, rfl, k2⟩
  refine awpL_restE (by simp [go_sem]; exact ⟨rfl, rfl⟩) ?_; try dsimp only [thn, inBlk]
  (repeat' first
    | refine AWP.seq ?_
    | refine AWP.block ?_
    | (refine AWP.skip ?_; try dsimp only [thn, inBlk])
    | (refine AWP.exit ?_; try simp only [thn, inBlk, if_true, reduceIte, Nat.reduceEqDiff])
    | (refine AWP.ret ?_; try dsimp only [thn, inBlk])
    | (refine AWP.condT ?_ ?_; (focus (simp [go_sem]; done)))
    | (refine AWP.condF ?_ ?_; (focus (simp [go_sem]; done)))
    | (apply AWP.rE; (focus (simp [go_sem]; exact ⟨rfl, rfl⟩)); try dsimp only [thn, inBlk])
    | fail)
  refine AWP.callE (by simp [go_sem]; exact ⟨rfl, rfl, rfl, rfl, rfl⟩) (by kernel_rfl) ?_
  refine (plain_calls k2.tail (by omega)).mono ?_
  rintro r h3 ⟨rfl, k3⟩
  refine awpL_restE (by simp [go_sem]; exact ⟨rfl, rfl⟩) ?_; try dsimp only [thn, inBlk]
  (repeat' first
    | refine AWP.seq ?_
    | refine AWP.block ?_
    | (refine AWP.skip ?_; try dsimp only [thn, inBlk])
    | (refine AWP.exit ?_; try simp only [thn, inBlk, if_true, reduceIte, Nat.reduceEqDiff])
    | (refine AWP.ret ?_; try dsimp only [thn, inBlk])
    | (refine AWP.condT ?_ ?_; (focus (simp [go_sem]; done)))
    | (refine AWP.condF ?_ ?_; (focus (simp [go_sem]; done)))
    | (apply AWP.rE; (focus (simp [go_sem]; exact ⟨rfl, rfl⟩)); try dsimp only [thn, inBlk])
    | fail)
  refine AWP.callE (by simp [go_sem]; exact ⟨rfl, rfl, rfl, rfl, rfl⟩) (by kernel_rfl) ?_
  refine (refPlain_calls k3 (by omega)).mono ?_
  rintro r h4 ⟨rfl, k4⟩
  refine awpL_restE (by simp [go_sem]; exact ⟨rfl, rfl⟩) ?_; try dsimp only [thn, inBlk]
  (repeat' first
    | refine AWP.seq ?_
    | refine AWP.block ?_
    | (refine AWP.skip ?_; try dsimp only [thn, inBlk])
    | (refine AWP.exit ?_; try simp only [thn, inBlk, if_true, reduceIte, Nat.reduceEqDiff])
    | (refine AWP.ret ?_; try dsimp only [thn, inBlk])
    | (refine AWP.condT ?_ ?_; (focus (simp [go_sem]; done)))
    | (refine AWP.condF ?_ ?_; (focus (simp [go_sem]; done)))
    | (apply AWP.rE; (focus (simp [go_sem]; exact ⟨rfl, rfl⟩)); try dsimp only [thn, inBlk])
    | fail)
  refine AWP.callE (by simp [go_sem]; exact ⟨rfl, rfl, rfl, rfl, rfl⟩) (by kernel_rfl) ?_
  refine (check_calls k4 (by omega)).mono ?_
  rintro r h5 ⟨rfl, k5⟩
  refine awpL_restE (by simp [go_sem]; exact ⟨rfl, rfl⟩) ?_; try dsimp only [thn, inBlk]
  (repeat' first
    | refine AWP.seq ?_
    | refine AWP.block ?_
    | (refine AWP.skip ?_; try dsimp only [thn, inBlk])
    | (refine AWP.exit ?_; try simp only [thn, inBlk, if_true, reduceIte, Nat.reduceEqDiff])
    | (refine AWP.ret ?_; try dsimp only [thn, inBlk])
    | (refine AWP.condT ?_ ?_; (focus (simp [go_sem]; done)))
    | (refine AWP.condF ?_ ?_; (focus (simp [go_sem]; done)))
    | (apply AWP.rE; (focus (simp [go_sem]; exact ⟨rfl, rfl⟩)); try dsimp only [thn, inBlk])
    | fail)
  simp [bodyQ, thn, inBlk, resA, resV, go_sem]
end L15
