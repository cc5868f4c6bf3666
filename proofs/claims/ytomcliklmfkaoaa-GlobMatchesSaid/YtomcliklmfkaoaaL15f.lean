import Derived.Test.YtomcliklmfkaoaaL15e
open Go Ab Go.Proofs
namespace L15
set_option autoImplicit false
set_option linter.unusedSimpArgs false
set_option linter.unusedVariables false

theorem check_calls {O : Old} {h : AHeap} {R : List Chunk} {p : List UInt8} (k : Own O h R) (hp : p.length ≤ 1000000) :
    ACalls Try.prog 12 #[.string ⟨p.toArray⟩] h fun v h' => v = .int .i64 (parseR p).2 ∧ Own O h' R := by
  refine ACalls.of_awp (args := [.string ⟨p.toArray⟩]) (n := 11) Try.func12 rfl rfl (by show 1 ≤ 11; omega) ?_
  (repeat' first
    | refine AWP.seq ?_
    | refine AWP.block ?_
    | (refine AWP.skip ?_; try dsimp only [thn, inBlk])
    | (refine AWP.exit ?_; try simp only [thn, inBlk, if_true, reduceIte, Nat.reduceEqDiff])
    | (refine AWP.ret ?_; try dsimp only [thn, inBlk])
    | (refine AWP.condT ?_ ?_; (focus (simp [go_sem]; done)))
    | (refine AWP.condF ?_ ?_; (focus (simp [go_sem]; done)))
    | (apply AWP.rE; (focus (simp [go_sem]; exact ⟨rfl, rfl⟩)); try dsimp only [thn, inBlk])
    | fail)
  refine AWP.callE (by simp [go_sem]; exact ⟨rfl, rfl, rfl, rfl, rfl⟩) (by kernel_rfl) ?_
  refine (parse_calls k hp).mono ?_
  rintro v h1 ⟨pa, pc, rfl, k1⟩
  refine awpL_restE (by simp [go_sem]; exact ⟨rfl, rfl⟩) ?_; try dsimp only [thn, inBlk]
  (repeat' first
    | refine AWP.seq ?_
    | refine AWP.block ?_
    | (refine AWP.skip ?_; try dsimp only [thn, inBlk])
    | (refine AWP.exit ?_; try simp only [thn, inBlk, if_true, reduceIte, Nat.reduceEqDiff])
    | (refine AWP.ret ?_; try dsimp only [thn, inBlk])
    | (refine AWP.condT ?_ ?_; (focus (simp [go_sem]; done)))
    | (refine AWP.condF ?_ ?_; (focus (simp [go_sem]; done)))
    | (apply AWP.rE; (focus (simp [go_sem]; exact ⟨rfl, rfl⟩)); try dsimp only [thn, inBlk])
    | fail)
  simp [bodyQ, thn, inBlk, resA, resV, go_sem]
  exact k1.tail

theorem tok_lit {s r : List UInt8} {p : Pt} (h : tok s = .one p r) (hk : p.kd = 0) : ∃ c, p = lit c := by
  unfold tok at h
  split at h
  · cases h
  · split at h
    · cases h; simp [runP] at hk
    · split at h
      · cases h; simp [anyP] at hk
      · split at h
        · split at h
          · cases h
          · rename_i p' r' hc
            cases h
            unfold cls at hc
            split at hc
            · cases hc
            · split at hc
              · cases hc
              · cases hc; simp at hk
        · split at h
          · split at h
            · cases h
            · cases h; exact ⟨_, rfl⟩
          · cases h; exact ⟨_, rfl⟩
theorem prs_lit : ∀ (s : List UInt8) {ps : List Pt}, prs s = some ps → ∀ p ∈ ps, p.kd = 0 → ∃ c, p = lit c := fun s ps h => by
  match e : tok s with
  | .fin => rw [prs_fin e] at h; cases h; simp
  | .bad => rw [prs_bad e] at h; cases h
  | .one p r =>
    have hl := tok_len e
    rw [prs_one e] at h
    simp only [Option.map_eq_some_iff] at h
    obtain ⟨ps', h1, rfl⟩ := h
    have := prs_lit r h1
    intro q hq hk
    rcases List.mem_cons.1 hq with rfl | hq
    · exact tok_lit e hk
    · exact this q hq hk
termination_by s => s.length
theorem parse_lit (s : List UInt8) : ∀ p ∈ (parseR s).1, p.kd = 0 → ∃ c, p = lit c := by
  unfold parseR
  split
  · simp
  · split
    · simp
    · rename_i ps h
      exact prs_lit s h

def pb (p : Pt) : UInt8 := (p.rs.headD (0, 0)).1
/-- The single text of a pattern. -/
def plainR (p : List UInt8) : List UInt8 × Bool :=
  if (parseR p).1.all (fun q => decide (q.kd = 0)) = true ∧ (parseR p).2 = 0 then ((parseR p).1.map pb, true) else ([], false)

set_option maxHeartbeats 16000000 in
theorem plain_calls {O : Old} {h : AHeap} {R : List Chunk} {p : List UInt8} (k : Own O h R) (hp : p.length ≤ 1000000) :
    ACalls Try.prog 13 #[.string ⟨p.toArray⟩] h fun v h' => v = .tuple #[.string ⟨(plainR p).1.toArray⟩, .bool (plainR p).2] ∧ Own O h' R := by
  refine ACalls.of_awp (args := [.string ⟨p.toArray⟩]) (n := 37) Try.func13 rfl rfl (by show 1 ≤ 37; omega) ?_
  (repeat' first
    | refine AWP.seq ?_
    | refine AWP.block ?_
    | (refine AWP.skip ?_; try dsimp only [thn, inBlk])
    | (refine AWP.exit ?_; try simp only [thn, inBlk, if_true, reduceIte, Nat.reduceEqDiff])
    | (refine AWP.ret ?_; try dsimp only [thn, inBlk])
    | (refine AWP.condT ?_ ?_; (focus (simp [go_sem]; done)))
    | (refine AWP.condF ?_ ?_; (focus (simp [go_sem]; done)))
    | (apply AWP.rE; (focus (simp [go_sem]; exact ⟨rfl, rfl⟩)); try dsimp only [thn, inBlk])
    | fail)
  refine AWP.callE (by simp [go_sem]; exact ⟨rfl, rfl, rfl, rfl, rfl⟩) (by kernel_rfl) ?_
  refine (parse_calls k hp).mono ?_
  rintro v h1 ⟨pa, pc, rfl, k1⟩
  have hb := parse_bound p
  have hlit := parse_lit p
  unfold plainR
  generalize hpr : parseR p = E at *
  obtain ⟨ps, er⟩ := E
  simp only at hb k1 hlit ⊢
  obtain ⟨hb1, hb2⟩ := hb
  obtain ⟨ws, hw, k2⟩ := grecs_iff.1 k1
  have dropAll : ∀ {hh : AHeap}, Own O hh (os 43 3 (.slice pa ps.length pc) ps.length (gcells prow ps ws).flatten :: (gsubs psub ps ws ++ R)) → Own O hh R := fun kk => Own.rest (L := _ :: gsubs psub ps ws) (by simpa using kk)
  refine awpL_restE (by simp [go_sem]; exact ⟨rfl, rfl⟩) ?_; try dsimp only [thn, inBlk]
  (repeat' first
    | refine AWP.seq ?_
    | refine AWP.block ?_
    | (refine AWP.skip ?_; try dsimp only [thn, inBlk])
    | (refine AWP.exit ?_; try simp only [thn, inBlk, if_true, reduceIte, Nat.reduceEqDiff])
    | (refine AWP.ret ?_; try dsimp only [thn, inBlk])
    | (refine AWP.condT ?_ ?_; (focus (simp [go_sem]; done)))
    | (refine AWP.condF ?_ ?_; (focus (simp [go_sem]; done)))
    | (apply AWP.rE; (focus (simp [go_sem]; exact ⟨rfl, rfl⟩)); try dsimp only [thn, inBlk])
    | fail)
  have k3 : Own O _ (ob 5 (.slice (some ⟨h1.next, 0, none⟩) 0 0) [] :: _) := (k2.push (.row [] 5 1 true false)).row_any (n := 0) rfl
  refine AWP.loopR [5, 6, 15, 16, 17] (fun m s h' => ∃ (j : Nat) (a : Option Addr) (c : Nat), j ≤ ps.length ∧ m = ps.length - j ∧ (ps.take j).all (fun q => decide (q.kd = 0)) = true ∧
    s = ⟨37, [(5, .int .i64 er), (6, .slice a j c), (15, .slice pa ps.length pc), (16, .int .i64 ps.length), (17, .int .i64 j)]⟩ ∧ Own O h' (ob 5 (.slice a j c) ((ps.take j).map pb) :: os 43 3 (.slice pa ps.length pc) ps.length (gcells prow ps ws).flatten :: (gsubs psub ps ws ++ R))) ?_ ?_
  · exact ⟨_, 0, some ⟨h1.next, 0, none⟩, 0, by omega, rfl, by simp, by simp [go_sem], by simpa using k3⟩
  rintro m s h' ⟨j, oa, oc, hj, rfl, hall, rfl, kt⟩
  have hjl : ((ps.take j).map pb).length = j := by simp; omega
  by_cases hlt : j < ps.length
  · have hlt' : (j : Int) < ps.length := by omega
    have wj : IntKind.i64.wrap ((j : Int) + 1) = ((j + 1 : Nat) : Int) := by rw [wI64 (by omega) (by omega)]; omega
    have hx : ps[j]? = some ps[j] := List.getElem?_eq_getElem hlt
    have hwj : ws[j]? = some (ws[j]'(by omega)) := List.getElem?_eq_getElem (by omega)
    have kt1 : Own O h' (os 43 3 (.slice pa ps.length pc) ps.length (gcells prow ps ws).flatten :: (ob 5 (.slice oa j oc) ((ps.take j).map pb) :: (gsubs psub ps ws ++ R))) := kt.b1
    obtain ⟨bi, bo, bc, ti, q1, q2, q3, q4, q5⟩ := Own.grec_at (P := Try.prog) (t := 38) (row := prow) (fun x w => rfl) hw kt1 Try.underlying38 tsz43 hx hwj (kd := .i64)
    have ksub : Own O h' (rng (ws[j]'(by omega)) ps[j].rs :: _) := Own.grec_sub (sub := psub) (A := [ob 5 (.slice oa j oc) ((ps.take j).map pb), os 43 3 (.slice pa ps.length pc) ps.length (gcells prow ps ws).flatten]) hw kt hx hwj
    have hst : ps.take (j + 1) = ps.take j ++ [ps[j]] := List.take_succ_eq_append_getElem hlt
    have hmem : ps[j] ∈ ps := List.getElem_mem hlt
    obtain ⟨wa, wn, hwv⟩ := Own.os_val ksub
    rw [hwv] at q4 ksub
    simp only [prow] at q4
    have hne : bi ≠ h'.next := fun e => by rw [e] at q2; rw [kt.bnd _ (Nat.le_refl _)] at q2; cases q2
    have q2' : (h'.push (.row [.int .i64 0, .slice none 0 0, .bool false] 43 3 true false)).obj bi = some (.row bc 43 3 ti false) := by rw [push_ne _ _ _ hne]; exact q2
    by_cases h0 : ps[j].kd = 0
    · obtain ⟨c, hc⟩ := hlit _ hmem h0
      have sl := ksub.os_sl
      have kk := kt.push (.row [.int .i64 ps[j].kd, .slice wa ps[j].rs.length wn, .bool ps[j].ng] 43 3 true false)
      have slk : Sl 2 (h'.push (.row [.int .i64 ps[j].kd, .slice wa ps[j].rs.length wn, .bool ps[j].ng] 43 3 true false)) (.slice wa ps[j].rs.length wn) ps[j].rs.length (rg ps[j].rs) := sl.ext (Ext.push (Ext.refl _) _)
      rw [hc] at q4 slk kk hst
      obtain ⟨ri, ro, rc, re, rz, rt', rr, p0, p1, p2, p3, p4, p5⟩ := rg_at slk (j := 0) (by simp [lit])
      simp only [lit, List.length_cons, List.length_nil, List.getElem_cons_zero, Nat.zero_add] at q4 slk kk p0 p1 p3 p4 p5
      obtain ⟨na, nc, h7, e7, k7⟩ := kk.b1.appB1 (P := Try.prog) (t := 28) (xt := 28) (c := c) (i := h'.next + 1) Try.underlying28 tsz5 tby5 tz5 nI28 rfl (by rw [hjl]; omega)
      rw [hjl] at e7 k7
      simp only [B] at p4
      have p0' : indexAddrP Try.prog 41 (.slice wa 1 wn) (.int .i64 0) = some (.pointer (some ⟨ri, ro, none⟩)) := p0
      (repeat' first
        | refine AWP.seq ?_
        | refine AWP.block ?_
        | (refine AWP.skip ?_; try dsimp only [thn, inBlk])
        | (refine AWP.exit ?_; try simp only [thn, inBlk, if_true, reduceIte, Nat.reduceEqDiff])
        | (refine AWP.ret ?_; try dsimp only [thn, inBlk])
        | (refine AWP.condT ?_ ?_; (focus (simp [go_sem, hlt, hlt', q1, q2, q2', q3, q4, p0', p1, p4, e7, wj]; done)))
        | (refine AWP.condF ?_ ?_; (focus (simp [go_sem, hlt, hlt', q1, q2, q2', q3, q4, p0', p1, p4, e7, wj]; done)))
        | (apply AWP.rE; (focus (simp [go_sem, hlt, hlt', q1, q2, q2', q3, q4, p0', p1, p4, e7, wj]; exact ⟨rfl, rfl⟩)); try dsimp only [thn, inBlk])
        | fail)
      refine ⟨ps.length - (j + 1), by omega, j + 1, na, nc, by omega, rfl, ?_, by simp [go_sem], ?_⟩
      · rw [hst, List.all_append, hall]; simp [lit]
      · rw [hst, List.map_append]
        exact k7.d1
    · have e : ¬ (ps.all (fun q => decide (q.kd = 0)) = true ∧ er = 0) := fun ⟨h, _⟩ => h0 (by simpa using List.all_eq_true.1 h _ hmem)
      have h0' : (ps[j].kd != 0) = true := by simpa using h0
      rw [if_neg e]
      have kk := kt.push (.row [.int .i64 ps[j].kd, .slice wa ps[j].rs.length wn, .bool ps[j].ng] 43 3 true false)
      generalize ps[j] = q at *
      (repeat' first
        | refine AWP.seq ?_
        | refine AWP.block ?_
        | (refine AWP.skip ?_; try dsimp only [thn, inBlk])
        | (refine AWP.exit ?_; try simp only [thn, inBlk, if_true, reduceIte, Nat.reduceEqDiff])
        | (refine AWP.ret ?_; try dsimp only [thn, inBlk])
        | (refine AWP.condT ?_ ?_; (focus (simp [go_sem, hlt, hlt', q1, q2, q2', q3, q4, h0']; done)))
        | (refine AWP.condF ?_ ?_; (focus (simp [go_sem, hlt, hlt', q1, q2, q2', q3, q4, h0']; done)))
        | (apply AWP.rE; (focus (simp [go_sem, hlt, hlt', q1, q2, q2', q3, q4, h0']; exact ⟨rfl, rfl⟩)); try dsimp only [thn, inBlk])
        | fail)
      simp [bodyQ, thn, inBlk, resA, resV, go_sem]
      exact dropAll kk.tail.tail
  · have hlt' : ¬ (j : Int) < ps.length := by omega
    obtain rfl : j = ps.length := by omega
    rw [List.take_of_length_le (Nat.le_refl _)] at kt hall
    have s1 := kt.ob_bytes.str (P := Try.prog) (t := 28) (e := 5) (u := 9) Try.underlying28 Try.underlying5 Try.underlying9
    by_cases her : er = 0
    · rw [if_pos ⟨hall, her⟩]
      have her' : (er != 0) = false := by simpa using her
      have hml : (ps.map pb).length = ps.length := by simp
      (repeat' first
        | refine AWP.seq ?_
        | refine AWP.block ?_
        | (refine AWP.skip ?_; try dsimp only [thn, inBlk])
        | (refine AWP.exit ?_; try simp only [thn, inBlk, if_true, reduceIte, Nat.reduceEqDiff])
        | (refine AWP.ret ?_; try dsimp only [thn, inBlk])
        | (refine AWP.condT ?_ ?_; (focus (simp [go_sem, hlt, hlt', her', s1]; done)))
        | (refine AWP.condF ?_ ?_; (focus (simp [go_sem, hlt, hlt', her', s1]; done)))
        | (apply AWP.rE; (focus (simp [go_sem, hlt, hlt', her', s1]; exact ⟨rfl, rfl⟩)); try dsimp only [thn, inBlk])
        | fail)
      simp [bodyQ, thn, inBlk, resA, resV, go_sem]
      exact dropAll kt.tail
    · have e : ¬ (ps.all (fun q => decide (q.kd = 0)) = true ∧ er = 0) := fun ⟨_, h⟩ => her h
      have her' : (er != 0) = true := by simpa using her
      rw [if_neg e]
      (repeat' first
        | refine AWP.seq ?_
        | refine AWP.block ?_
        | (refine AWP.skip ?_; try dsimp only [thn, inBlk])
        | (refine AWP.exit ?_; try simp only [thn, inBlk, if_true, reduceIte, Nat.reduceEqDiff])
        | (refine AWP.ret ?_; try dsimp only [thn, inBlk])
        | (refine AWP.condT ?_ ?_; (focus (simp [go_sem, hlt, hlt', her']; done)))
        | (refine AWP.condF ?_ ?_; (focus (simp [go_sem, hlt, hlt', her']; done)))
        | (apply AWP.rE; (focus (simp [go_sem, hlt, hlt', her']; exact ⟨rfl, rfl⟩)); try dsimp only [thn, inBlk])
        | fail)
      simp [bodyQ, thn, inBlk, resA, resV, go_sem]
      exact dropAll kt.tail

theorem str3 : True := trivial
set_option maxHeartbeats 4000000 in
theorem speaks_calls {O : Old} {h : AHeap} {R : List Chunk} (k : Own O h R) : ACalls Try.prog 9 #[] h fun v h' => v = .bool true ∧ Own O h' R := by
  refine ACalls.of_awp (args := []) (n := 13) Try.func9 rfl rfl (by show 0 ≤ 13; omega) ?_
  (repeat' first
    | refine AWP.seq ?_
    | refine AWP.block ?_
    | (refine AWP.skip ?_; try dsimp only [thn, inBlk])
    | (refine AWP.exit ?_; try simp only [thn, inBlk, if_true, reduceIte, Nat.reduceEqDiff])
    | (refine AWP.ret ?_; try dsimp only [thn, inBlk])
    | (refine AWP.condT ?_ ?_; (focus (simp [go_sem]; done)))
    | (refine AWP.condF ?_ ?_; (focus (simp [go_sem]; done)))
    | (apply AWP.rE; (focus (simp [go_sem]; exact ⟨rfl, rfl⟩)); try dsimp only [thn, inBlk])
    | fail)
  refine AWP.callE (by simp [go_sem]; exact ⟨rfl, rfl, rfl, rfl, rfl⟩) (by kernel_rfl) ?_
  refine (match_calls (p := [97, 42, 91, 33, 120, 45, 122, 93, 63]) (t := [97, 49, 50]) k (by simp) (by simp)).mono ?_
  rintro v h1 ⟨rfl, k1⟩
  have e1 : matchR [97, 42, 91, 33, 120, 45, 122, 93, 63] [97, 49, 50] = true := by decide +kernel
  rw [e1]
  refine awpL_toCall (by simp [go_sem]; exact ⟨rfl, rfl, rfl, rfl, rfl⟩) (by kernel_rfl) ?_
  refine (match_calls (p := [97, 42, 91, 33, 120, 45, 122, 93, 63]) (t := [97, 98, 99, 100]) k1 (by simp) (by simp)).mono ?_
  rintro v h2 ⟨rfl, k2⟩
  have e2 : matchR [97, 42, 91, 33, 120, 45, 122, 93, 63] [97, 98, 99, 100] = true := by decide +kernel
  rw [e2]
  refine awpL_toCall (by simp [go_sem]; exact ⟨rfl, rfl, rfl, rfl, rfl⟩) (by kernel_rfl) ?_
  refine (match_calls (p := [97, 42, 91, 33, 120, 45, 122, 93, 63]) (t := [97, 120, 121]) k2 (by simp) (by simp)).mono ?_
  rintro v h3 ⟨rfl, k3⟩
  have e3 : matchR [97, 42, 91, 33, 120, 45, 122, 93, 63] [97, 120, 121] = false := by decide +kernel
  rw [e3]
  refine awpL_restE (by simp [go_sem]; exact ⟨rfl, rfl⟩) ?_; try dsimp only [thn, inBlk]
  (repeat' first
    | refine AWP.seq ?_
    | refine AWP.block ?_
    | (refine AWP.skip ?_; try dsimp only [thn, inBlk])
    | (refine AWP.exit ?_; try simp only [thn, inBlk, if_true, reduceIte, Nat.reduceEqDiff])
    | (refine AWP.ret ?_; try dsimp only [thn, inBlk])
    | (refine AWP.condT ?_ ?_; (focus (simp [go_sem]; done)))
    | (refine AWP.condF ?_ ?_; (focus (simp [go_sem]; done)))
    | (apply AWP.rE; (focus (simp [go_sem]; exact ⟨rfl, rfl⟩)); try dsimp only [thn, inBlk])
    | fail)
  simp [bodyQ, thn, inBlk, resA, resV, go_sem]
  exact k3
end L15
