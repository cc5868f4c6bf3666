import Derived.Test.YtfnlbcifdopnhaaDoorL11n
open Go Ab Go.Proofs
namespace L11
set_option autoImplicit false
set_option linter.unusedSimpArgs false
set_option linter.unusedVariables false

/-! ### As many as may be -/
def lt (i : Nat) : List UInt8 := [UInt8.ofNat (97 + i), 64, 82]
theorem lt_inj {i j : Nat} (hi : i < 100) (hj : j < 100) (h : lt i = lt j) : i = j := by
  simp only [lt, List.cons.injEq, and_true] at h
  have := congrArg UInt8.toNat h
  simp [UInt8.toNat_ofNat] at this; omega
theorem lt_good : ∀ i, i < 24 → nameB (lt i) = true := by decide +kernel
abbrev ent (k : Nat) (e : Int) : Cr := ⟨aB, [], ⟨lt k, [], 0, 0, e, 0⟩⟩
def ML : Nat → List Int → CL
  | _, [] => []
  | k, e :: es => (lt k, ent k e) :: ML (k + 1) es
theorem ML_app (e : Int) : ∀ (es : List Int) (k : Nat), ML k (es ++ [e]) = ML k es ++ [(lt (k + es.length), ent (k + es.length) e)]
  | [], k => rfl
  | x :: es, k => by
    rw [List.cons_append, ML, ML_app e es (k + 1), ML, List.length_cons, show k + 1 + es.length = k + (es.length + 1) by omega]; rfl
theorem ML_len : ∀ (es : List Int) (k : Nat), (ML k es).length = es.length
  | [], _ => rfl
  | x :: es, k => by rw [ML, List.length_cons, ML_len es, List.length_cons]
theorem ML_mem {x : List UInt8 × Cr} : ∀ {es : List Int} {k : Nat}, x ∈ ML k es → ∃ i e, k ≤ i ∧ i < k + es.length ∧ e ∈ es ∧ x = (lt i, ent i e)
  | [], k, h => by cases h
  | y :: es, k, h => by
    rw [ML] at h
    rcases List.mem_cons.1 h with rfl | h
    · exact ⟨k, y, Nat.le_refl _, by simp, by simp, rfl⟩
    · obtain ⟨i, e, h1, h2, h3, h4⟩ := ML_mem h
      exact ⟨i, e, by omega, by simp; omega, by simp [h3], h4⟩
theorem ML_keep0 {es : List Int} (h : ∀ e ∈ es, 0 ≤ e) : keepL (ML 0 es) 0 = ML 0 es := by
  rw [keepL, List.filter_eq_self]
  intro x hx
  obtain ⟨i, e, _, _, he, rfl⟩ := ML_mem hx
  have := h e he
  simp; omega
theorem ML_keep {now : Int} : ∀ {es : List Int} {k : Nat}, (keepL (ML k es) now).length = es.countP (fun e => decide (now ≤ e))
  | [], k => rfl
  | e :: es, k => by
    have ih := ML_keep (now := now) (es := es) (k := k + 1)
    unfold keepL at ih ⊢
    rw [ML, List.filter_cons, List.countP_cons]
    by_cases h : now ≤ e
    · have h2 : ¬ e < now := by omega
      simp only [h2, h]; simp [ih]
    · have h2 : e < now := by omega
      simp only [h2, h]; simp [ih]
theorem ML_none {es : List Int} {n : Nat} (h1 : es.length ≤ n) (h2 : n < 100) : get (ML 0 es) (lt n) = none := by
  cases hg : get (ML 0 es) (lt n) with
  | none => rfl
  | some c =>
    obtain ⟨i, e, _, hi, _, h⟩ := ML_mem (get_mem hg)
    have := lt_inj h2 (by omega) (congrArg Prod.fst h)
    omega
theorem grant_ok {s : List UInt8} {y z : Int} (hn : nameB s = true) (h1 : 0 ≤ y) (h2 : y ≤ z) (h3 : z ≤ 1099511627776) : goodC ⟨aB, [], ⟨s, [], 0, y, z, 0⟩⟩ = true := by
  have ha : nameB aB = true := by decide +kernel
  simp only [goodC, grantB, lastsB, ha, hn]; simp [h1, h2, h3]
theorem ML_put {es : List Int} {e : Int} (hs : ∀ e ∈ es, 0 ≤ e) (h0 : 0 ≤ e) (hm : e ≤ 65535) {n : Nat} (hn : n < 24) (hl : es.length = min n 8) :
    putR (ML 0 es) (ent n e) 0 = (if n < 8 then 0 else 2, if n < 8 then ML 0 (es ++ [e]) else ML 0 es) := by
  unfold putR
  rw [if_neg (by rw [grant_ok (lt_good n hn) (by omega) h0 (by omega)]; decide), if_neg (by show ¬ e < 0; omega), ML_keep0 hs]
  have hg : get (ML 0 es) (ent n e).g.sv = none := ML_none (by omega) (by omega)
  by_cases h8 : n < 8
  · rw [if_neg (by rw [ML_len]; omega), if_pos h8, if_pos h8, set_none hg, ML_app, show 0 + es.length = n by omega]
  · rw [if_pos ⟨hg, by rw [ML_len]; omega⟩, if_neg h8, if_neg h8]
abbrev zB : List UInt8 := [122, 64, 82]
theorem ML_last {es : List Int} {now : Int} (h0 : 0 ≤ now) (h1 : now ≤ 549755813888) (hl : es.length ≤ 8) :
    (putR (ML 0 es) ⟨aB, [], ⟨zB, [], 0, now, now + 5, 0⟩⟩ now).1 = if es.countP (fun e => decide (now ≤ e)) < 8 then 0 else 2 := by
  unfold putR
  have hg : get (keepL (ML 0 es) now) zB = none := by
    cases hg : get (keepL (ML 0 es) now) zB with
    | none => rfl
    | some c =>
      obtain ⟨i, e, _, hi, _, h⟩ := ML_mem (List.mem_filter.1 (get_mem hg)).1
      have h2 : lt 25 = lt i := congrArg Prod.fst h
      have := lt_inj (by omega) (by omega) h2
      omega
  rw [if_neg (by rw [grant_ok (by decide +kernel) h0 (by omega) (by omega)]; decide), if_neg (by show ¬ now + 5 < now; omega)]
  by_cases h8 : es.countP (fun e => decide (now ≤ e)) < 8
  · rw [if_neg (by rw [ML_keep]; omega), if_pos h8]
  · rw [if_pos ⟨hg, by rw [ML_keep]; omega⟩, if_neg h8]
theorem mask_fun (m : Nat) (hm : m < 9223372036854775808) : ∃ f : Int → Nat, ∀ z, f z ≤ m ∧ IntKind.i64.wrap ((@BitVec.toNat 64 (@HAnd.hAnd (BitVec 64) (BitVec 64) (BitVec 64) (@instHAndOfAndOp (BitVec IntKind.i64.bits) (@BitVec.instAndOp IntKind.i64.bits)) (BitVec.ofInt 64 z) (BitVec.ofNat 64 m)) : Nat) : Int) = (f z : Int) :=
  ⟨fun z => (and_mask z m hm).choose, fun z => (and_mask z m hm).choose_spec⟩
set_option maxHeartbeats 16000000 in
theorem most_calls {h : AHeap} {w : Value} {zs : List Int} {now : Int} (hb : h.base = h.next) (hz : Sl 1 h w zs.length (zs.map (.int .i64))) (hn1 : zs.length ≤ 9223372036854775807) :
    ACalls Tryd.prog 4 #[w, .int .i64 now] h fun r _ => r = .bool true := by
  refine Own.of_wf fun k0 => ?_
  obtain ⟨va, vc, rfl⟩ := hz.val
  refine ACalls.of_awp (args := [.slice va zs.length vc, .int .i64 now]) (n := 83) Tryd.func4 rfl rfl (by show 2 ≤ 83; omega) ?_
  (repeat' first
    | refine AWP.seq ?_
    | refine AWP.block ?_
    | (refine AWP.skip ?_; try dsimp only [thn, inBlk])
    | (refine AWP.exit ?_; try simp only [thn, inBlk, if_true, reduceIte, Nat.reduceEqDiff])
    | (refine AWP.ret ?_; try dsimp only [thn, inBlk])
    | (refine AWP.condT ?_ ?_; (focus (simp [go_sem]; done)))
    | (refine AWP.condF ?_ ?_; (focus (simp [go_sem]; done)))
    | (apply AWP.rE; (focus (simp [go_sem]; exact ⟨rfl, rfl⟩)); try dsimp only [thn, inBlk])
    | fail)
  refine AWP.callE (by simp [go_sem]; exact ⟨rfl, rfl, rfl, rfl, rfl⟩) (by kernel_rfl) ?_
  refine (speaks_calls k0).mono ?_
  rintro r h1 ⟨rfl, k1⟩
  refine awpL_restE (by simp [go_sem]; exact ⟨rfl, rfl⟩) ?_; try dsimp only [thn, inBlk]
  (repeat' first
    | refine AWP.seq ?_
    | refine AWP.block ?_
    | (refine AWP.skip ?_; try dsimp only [thn, inBlk])
    | (refine AWP.exit ?_; try simp only [thn, inBlk, if_true, reduceIte, Nat.reduceEqDiff])
    | (refine AWP.ret ?_; try dsimp only [thn, inBlk])
    | (refine AWP.condT ?_ ?_; (focus (simp [go_sem]; done)))
    | (refine AWP.condF ?_ ?_; (focus (simp [go_sem]; done)))
    | (apply AWP.rE; (focus (simp [go_sem]; exact ⟨rfl, rfl⟩)); try dsimp only [thn, inBlk])
    | fail)
  by_cases hl : 20 < zs.length
  · have hl' : (20 : Int) < zs.length := by omega
    (repeat' first
      | refine AWP.seq ?_
      | refine AWP.block ?_
      | (refine AWP.skip ?_; try dsimp only [thn, inBlk])
      | (refine AWP.exit ?_; try simp only [thn, inBlk, if_true, reduceIte, Nat.reduceEqDiff])
      | (refine AWP.ret ?_; try dsimp only [thn, inBlk])
      | (refine AWP.condT ?_ ?_; (focus (simp [go_sem, hl']; done)))
      | (refine AWP.condF ?_ ?_; (focus (simp [go_sem, hl']; done)))
      | (apply AWP.rE; (focus (simp [go_sem, hl']; exact ⟨rfl, rfl⟩)); try dsimp only [thn, inBlk])
      | fail)
    simp [bodyQ, thn, inBlk, resA, resV, go_sem]
  have hl' : ¬ (20 : Int) < zs.length := by omega
  by_cases hn0 : now < 0
  · (repeat' first
      | refine AWP.seq ?_
      | refine AWP.block ?_
      | (refine AWP.skip ?_; try dsimp only [thn, inBlk])
      | (refine AWP.exit ?_; try simp only [thn, inBlk, if_true, reduceIte, Nat.reduceEqDiff])
      | (refine AWP.ret ?_; try dsimp only [thn, inBlk])
      | (refine AWP.condT ?_ ?_; (focus (simp [go_sem, hl', hn0]; done)))
      | (refine AWP.condF ?_ ?_; (focus (simp [go_sem, hl', hn0]; done)))
      | (apply AWP.rE; (focus (simp [go_sem, hl', hn0]; exact ⟨rfl, rfl⟩)); try dsimp only [thn, inBlk])
      | fail)
    simp [bodyQ, thn, inBlk, resA, resV, go_sem]
  by_cases hn2 : 549755813888 < now
  · (repeat' first
      | refine AWP.seq ?_
      | refine AWP.block ?_
      | (refine AWP.skip ?_; try dsimp only [thn, inBlk])
      | (refine AWP.exit ?_; try simp only [thn, inBlk, if_true, reduceIte, Nat.reduceEqDiff])
      | (refine AWP.ret ?_; try dsimp only [thn, inBlk])
      | (refine AWP.condT ?_ ?_; (focus (simp [go_sem, hl', hn0, hn2]; done)))
      | (refine AWP.condF ?_ ?_; (focus (simp [go_sem, hl', hn0, hn2]; done)))
      | (apply AWP.rE; (focus (simp [go_sem, hl', hn0, hn2]; exact ⟨rfl, rfl⟩)); try dsimp only [thn, inBlk])
      | fail)
    simp [bodyQ, thn, inBlk, resA, resV, go_sem]
  (repeat' first
    | refine AWP.seq ?_
    | refine AWP.block ?_
    | (refine AWP.skip ?_; try dsimp only [thn, inBlk])
    | (refine AWP.exit ?_; try simp only [thn, inBlk, if_true, reduceIte, Nat.reduceEqDiff])
    | (refine AWP.ret ?_; try dsimp only [thn, inBlk])
    | (refine AWP.condT ?_ ?_; (focus (simp [go_sem, hl', hn0, hn2]; done)))
    | (refine AWP.condF ?_ ?_; (focus (simp [go_sem, hl', hn0, hn2]; done)))
    | (apply AWP.rE; (focus (simp [go_sem, hl', hn0, hn2]; exact ⟨rfl, rfl⟩)); try dsimp only [thn, inBlk])
    | fail)
  refine AWP.callE (by simp [go_sem]; exact ⟨rfl, rfl, rfl, rfl, rfl⟩) (by kernel_rfl) ?_
  refine (new_calls k1).mono ?_
  rintro r h4 ⟨i, rfl, k4⟩
  obtain ⟨f, hf⟩ := mask_fun 65535 (by omega)
  let E : Int → Int := fun z => (f z : Int)
  refine awpL_restE (by simp [go_sem]; exact ⟨rfl, rfl⟩) ?_; try dsimp only [thn, inBlk]
  (repeat' first
    | refine AWP.seq ?_
    | refine AWP.block ?_
    | (refine AWP.skip ?_; try dsimp only [thn, inBlk])
    | (refine AWP.exit ?_; try simp only [thn, inBlk, if_true, reduceIte, Nat.reduceEqDiff])
    | (refine AWP.ret ?_; try dsimp only [thn, inBlk])
    | (refine AWP.condT ?_ ?_; (focus (simp [go_sem]; done)))
    | (refine AWP.condF ?_ ?_; (focus (simp [go_sem]; done)))
    | (apply AWP.rE; (focus (simp [go_sem]; exact ⟨rfl, rfl⟩)); try dsimp only [thn, inBlk])
    | fail)
  refine AWP.loopR [1, 5, 6, 27, 28, 29] (fun m s h' => ∃ (j : Nat) (es : List Int), j ≤ zs.length ∧ m = zs.length - j ∧ s = ⟨83, [(1, .int .i64 now), (5, ptr i), (6, .int .i64 (es.countP fun e => decide (now ≤ e) : Nat)), (27, .slice va zs.length vc), (28, .int .i64 zs.length), (29, .int .i64 j)]⟩ ∧ es.length = min j 8 ∧ (∀ e ∈ es, 0 ≤ e) ∧ CI (ML 0 es) ∧ Own h.asOld h' [csc i (ML 0 es)]) ?_ ?_
  · exact ⟨_, 0, [], by omega, rfl, by simp [go_sem], by simp, by simp, CI.nil, k4⟩
  rintro m s hB ⟨j, es, hj, rfl, rfl, hel, hes, bi, kB⟩
  have hcl : (es.countP fun e => decide (now ≤ e)) ≤ es.length := List.countP_le_length
  by_cases hjm : j < zs.length
  · have hjm' : (j : Int) < zs.length := by omega
    have hzj : (zs.map (Value.int .i64))[j]? = some (.int .i64 zs[j]) := by simp [hjm]
    obtain ⟨b1, o1, c1, _, _, _, _, p1, q1, r1⟩ := (Sl.of_old hz hb kB).at1 (P := Tryd.prog) (t := 45) Tryd.underlying45 tsz2 hjm hzj (kd := .i64)
    obtain ⟨z, hzz⟩ : ∃ z, z = zs[j] := ⟨_, rfl⟩
    rw [← hzz] at r1
    obtain ⟨hz1, hz2⟩ := hf z
    generalize f z = e at hz1 hz2
    have w1 : IntKind.i64.wrap ((j : Int) + 1) = ((j + 1 : Nat) : Int) := by rw [wI64 (by omega) (by omega)]; omega
    obtain ⟨x, hx⟩ : ∃ x, x = 97 + j := ⟨_, rfl⟩
    obtain ⟨A, hA⟩ : ∃ A, A = UInt8.ofNat x := ⟨_, rfl⟩
    have v3 : IntKind.i64.wrap (97 + (j : Int)) = (x : Int) := by rw [wI64 (by omega) (by omega)]; omega
    have v5 : IntKind.u8.wrap (x : Int) = (A.toNat : Int) := by rw [IntKind.wrap_u8, hA]; simp
    have hlt : lt j = [A, 64, 82] := by simp only [lt, hA, hx]
    have s1 : strR Tryd.prog (hB.push (.row [.int .u8 A.toNat, .int .u8 64, .int .u8 82] 5 1 true false)) 27 9 (.slice (some ⟨hB.next, 0, none⟩) 3 3) = some (.string ⟨#[A, 64, 82]⟩) :=
      strR_new (bs := [A, 64, 82]) Tryd.underlying27 Tryd.underlying5 Tryd.underlying9 rfl rfl
    have b3 : buildP Tryd.prog 32 [(0, .string ⟨#[A, 64, 82]⟩), (4, .int .i64 (e : Int))] = some (grV (ent j e).g) := by
      have := buildG4 (s := lt j) (z := (e : Int)); simp only [hlt] at this ⊢; exact this
    have b4 : buildP Tryd.prog 34 [(0, .string ⟨#[97, 64, 82]⟩), (2, grV (ent j e).g)] = some (crV (ent j e, zP)) := buildC02 (s := aB) (t := lt j) (y := 0) (z := (e : Int))
    have k6 : Own h.asOld (((hB.push (.row [.int .u8 A.toNat, .int .u8 64, .int .u8 82] 5 1 true false)).push (.row (cr zC zP) 34 23 true false)).set (hB.next + 1) (.row (cr (ent j e) zP) 34 23 true false)) [cell (hB.next + 1) (.row (cr (ent j e) zP) 34 23 true false), csc i (ML 0 es)] := ((kB.push (.row [.int .u8 A.toNat, .int .u8 64, .int .u8 82] 5 1 true false)).tail.push (.row (cr zC zP) 34 23 true false)).set _
    have c6 := k6.obj
    (repeat' first
      | refine AWP.seq ?_
      | refine AWP.block ?_
      | (refine AWP.skip ?_; try dsimp only [thn, inBlk])
      | (refine AWP.exit ?_; try simp only [thn, inBlk, if_true, reduceIte, Nat.reduceEqDiff])
      | (refine AWP.ret ?_; try dsimp only [thn, inBlk])
      | (refine AWP.condT ?_ ?_; (focus (simp [go_sem, hjm', p1, q1, r1, v3, v5, s1, hz2, ↓b3, ↓b4, ↓allocC]; done)))
      | (refine AWP.condF ?_ ?_; (focus (simp [go_sem, hjm', p1, q1, r1, v3, v5, s1, hz2, ↓b3, ↓b4, ↓allocC]; done)))
      | (apply AWP.rE; (focus (simp [go_sem, hjm', p1, q1, r1, v3, v5, s1, hz2, ↓b3, ↓b4, ↓allocC]; exact ⟨rfl, rfl⟩)); try dsimp only [thn, inBlk])
      | fail)
    refine AWP.callE (by simp [go_sem, c6]; exact ⟨rfl, rfl, rfl, rfl, rfl⟩) (by kernel_rfl) ?_
    have hp := ML_put (es := es) (e := (e : Int)) hes (by omega) (by omega) (n := j) (by omega) hel
    refine (put_calls (c := ent j e) (p := zP) (now := 0) bi k6.b1 (fun hh _ => nil_bytes hh) (by show aB.length ≤ _; decide) (by show (lt j).length ≤ _; rw [hlt]; simp) (by simp) (by simp)).mono ?_
    rintro r h7 ⟨rfl, k7⟩
    have bi2 := bi.put (e := ent j e) (now := 0) (by show (lt j).length ≤ _; rw [hlt]; simp) (by simp)
    rw [hp] at k7 bi2 ⊢
    have w2 : IntKind.i64.wrap (((es.countP fun e => decide (now ≤ e) : Nat) : Int) + 1) = (((es.countP fun e => decide (now ≤ e)) + 1 : Nat) : Int) := by rw [wI64 (by omega) (by omega)]; omega
    by_cases h8 : j < 8
    · simp only [if_pos h8] at k7 bi2
      rw [if_pos h8]
      have hca : ((es ++ [(e : Int)]).countP fun e => decide (now ≤ e)) = (es.countP fun e => decide (now ≤ e)) + (if now ≤ (e : Int) then 1 else 0) := by
        rw [List.countP_append, List.countP_singleton]
        simp
      have hes2 : ∀ x ∈ es ++ [(e : Int)], 0 ≤ x := fun x hx => by
        rcases List.mem_append.1 hx with hx | hx
        · exact hes x hx
        · rw [List.mem_singleton.1 hx]; omega
      have hel2 : (es ++ [(e : Int)]).length = min (j + 1) 8 := by simp; omega
      generalize es ++ [(e : Int)] = fs at *
      by_cases hne : now ≤ (e : Int)
      · rw [if_pos hne] at hca
        refine awpL_restE (by simp [go_sem, hz2, hne]; exact ⟨rfl, rfl⟩) ?_; try dsimp only [thn, inBlk]
        (repeat' first
          | refine AWP.seq ?_
          | refine AWP.block ?_
          | (refine AWP.skip ?_; try dsimp only [thn, inBlk])
          | (refine AWP.exit ?_; try simp only [thn, inBlk, if_true, reduceIte, Nat.reduceEqDiff])
          | (refine AWP.ret ?_; try dsimp only [thn, inBlk])
          | (refine AWP.condT ?_ ?_; (focus (simp [go_sem, w1, w2]; done)))
          | (refine AWP.condF ?_ ?_; (focus (simp [go_sem, w1, w2]; done)))
          | (apply AWP.rE; (focus (simp [go_sem, w1, w2]; exact ⟨rfl, rfl⟩)); try dsimp only [thn, inBlk])
          | fail)
        exact ⟨zs.length - (j + 1), by omega, j + 1, fs, by omega, rfl, by rw [hca]; simp [go_sem], hel2, hes2, bi2, k7.d1⟩
      · rw [if_neg hne] at hca
        refine awpL_restE (by simp [go_sem, hz2, hne]; exact ⟨rfl, rfl⟩) ?_; try dsimp only [thn, inBlk]
        (repeat' first
          | refine AWP.seq ?_
          | refine AWP.block ?_
          | (refine AWP.skip ?_; try dsimp only [thn, inBlk])
          | (refine AWP.exit ?_; try simp only [thn, inBlk, if_true, reduceIte, Nat.reduceEqDiff])
          | (refine AWP.ret ?_; try dsimp only [thn, inBlk])
          | (refine AWP.condT ?_ ?_; (focus (simp [go_sem, w1, w2]; done)))
          | (refine AWP.condF ?_ ?_; (focus (simp [go_sem, w1, w2]; done)))
          | (apply AWP.rE; (focus (simp [go_sem, w1, w2]; exact ⟨rfl, rfl⟩)); try dsimp only [thn, inBlk])
          | fail)
        exact ⟨zs.length - (j + 1), by omega, j + 1, fs, by omega, rfl, by rw [hca]; simp [go_sem], hel2, hes2, bi2, k7.d1⟩
    · simp only [if_neg h8] at k7 bi2
      rw [if_neg h8]
      refine awpL_restE (by simp [go_sem, hz2]; exact ⟨rfl, rfl⟩) ?_; try dsimp only [thn, inBlk]
      (repeat' first
        | refine AWP.seq ?_
        | refine AWP.block ?_
        | (refine AWP.skip ?_; try dsimp only [thn, inBlk])
        | (refine AWP.exit ?_; try simp only [thn, inBlk, if_true, reduceIte, Nat.reduceEqDiff])
        | (refine AWP.ret ?_; try dsimp only [thn, inBlk])
        | (refine AWP.condT ?_ ?_; (focus (simp [go_sem, w1]; done)))
        | (refine AWP.condF ?_ ?_; (focus (simp [go_sem, w1]; done)))
        | (apply AWP.rE; (focus (simp [go_sem, w1]; exact ⟨rfl, rfl⟩)); try dsimp only [thn, inBlk])
        | fail)
      exact ⟨zs.length - (j + 1), by omega, j + 1, es, by omega, rfl, by simp [go_sem], by omega, hes, bi2, k7.d1⟩
  have hjm' : ¬ (j : Int) < zs.length := by omega
  have w5 : IntKind.i64.wrap (now + 5) = now + 5 := wI64 (by omega) (by omega)
  have b3 : buildP Tryd.prog 32 [(0, .string ⟨#[122, 64, 82]⟩), (3, .int .i64 now), (4, .int .i64 (now + 5))] = some (grV ⟨zB, [], 0, now, now + 5, 0⟩) := buildG34 (s := zB)
  have b4 : buildP Tryd.prog 34 [(0, .string ⟨#[97, 64, 82]⟩), (2, grV ⟨zB, [], 0, now, now + 5, 0⟩)] = some (crV (⟨aB, [], ⟨zB, [], 0, now, now + 5, 0⟩⟩, zP)) := buildC02 (s := aB) (t := zB)
  (repeat' first
    | refine AWP.seq ?_
    | refine AWP.block ?_
    | (refine AWP.skip ?_; try dsimp only [thn, inBlk])
    | (refine AWP.exit ?_; try simp only [thn, inBlk, if_true, reduceIte, Nat.reduceEqDiff])
    | (refine AWP.ret ?_; try dsimp only [thn, inBlk])
    | (refine AWP.condT ?_ ?_; (focus (simp [go_sem, hjm', w5, ↓b3, ↓b4]; done)))
    | (refine AWP.condF ?_ ?_; (focus (simp [go_sem, hjm', w5, ↓b3, ↓b4]; done)))
    | (apply AWP.rE; (focus (simp [go_sem, hjm', w5, ↓b3, ↓b4]; exact ⟨rfl, rfl⟩)); try dsimp only [thn, inBlk])
    | fail)
  refine AWP.callE (by simp [go_sem, w5, ↓b3, ↓b4]; exact ⟨rfl, rfl, rfl, rfl, rfl⟩) (by kernel_rfl) ?_
  refine (put_calls (c := ⟨aB, [], ⟨zB, [], 0, now, now + 5, 0⟩⟩) (p := zP) (now := now) bi kB (fun hh _ => nil_bytes hh) (by simp) (by simp) (by simp) (by simp)).mono ?_
  rintro r h7 ⟨rfl, k7⟩
  have bi2 := bi.put (e := ⟨aB, [], ⟨zB, [], 0, now, now + 5, 0⟩⟩) (now := now) (by simp) (by simp)
  have hlast := ML_last (es := es) (now := now) (by omega) (by omega) (by omega)
  rw [hlast]
  generalize (putR (ML 0 es) ⟨aB, [], ⟨zB, [], 0, now, now + 5, 0⟩⟩ now).2 = L2 at *
  generalize (es.countP fun e => decide (now ≤ e)) = cnt at *
  by_cases h8 : cnt < 8
  · rw [if_pos h8]
    have h8' : (cnt : Int) < 8 := by omega
    refine awpL_restE (by simp [go_sem]; exact ⟨rfl, rfl⟩) ?_; try dsimp only [thn, inBlk]
    (repeat' first
      | refine AWP.seq ?_
      | refine AWP.block ?_
      | (refine AWP.skip ?_; try dsimp only [thn, inBlk])
      | (refine AWP.exit ?_; try simp only [thn, inBlk, if_true, reduceIte, Nat.reduceEqDiff])
      | (refine AWP.ret ?_; try dsimp only [thn, inBlk])
      | (refine AWP.condT ?_ ?_; (focus (simp [go_sem]; done)))
      | (refine AWP.condF ?_ ?_; (focus (simp [go_sem]; done)))
      | (apply AWP.rE; (focus (simp [go_sem]; exact ⟨rfl, rfl⟩)); try dsimp only [thn, inBlk])
      | fail)
    refine AWP.callE (by simp [go_sem, h8, h8']; exact ⟨rfl, rfl, rfl, rfl, rfl⟩) (by kernel_rfl) ?_
    refine (servers_calls bi2 k7).mono ?_
    rintro r h9 ⟨a9, c9, rfl, k9⟩
    have hmx : ((srvL L2).length : Int) ≤ 8 := by rw [srvL_len]; have := bi2.mx; omega
    refine awpL_restE (by simp [go_sem, hmx]; exact ⟨rfl, rfl⟩) ?_; try dsimp only [thn, inBlk]
    (repeat' first
      | refine AWP.seq ?_
      | refine AWP.block ?_
      | (refine AWP.skip ?_; try dsimp only [thn, inBlk])
      | (refine AWP.exit ?_; try simp only [thn, inBlk, if_true, reduceIte, Nat.reduceEqDiff])
      | (refine AWP.ret ?_; try dsimp only [thn, inBlk])
      | (refine AWP.condT ?_ ?_; (focus (simp [go_sem]; done)))
      | (refine AWP.condF ?_ ?_; (focus (simp [go_sem]; done)))
      | (apply AWP.rE; (focus (simp [go_sem]; exact ⟨rfl, rfl⟩)); try dsimp only [thn, inBlk])
      | fail)
    simp [bodyQ, thn, inBlk, resA, resV, go_sem]
  · rw [if_neg h8]
    have h8' : ¬ (cnt : Int) < 8 := by omega
    refine awpL_restE (by simp [go_sem]; exact ⟨rfl, rfl⟩) ?_; try dsimp only [thn, inBlk]
    (repeat' first
      | refine AWP.seq ?_
      | refine AWP.block ?_
      | (refine AWP.skip ?_; try dsimp only [thn, inBlk])
      | (refine AWP.exit ?_; try simp only [thn, inBlk, if_true, reduceIte, Nat.reduceEqDiff])
      | (refine AWP.ret ?_; try dsimp only [thn, inBlk])
      | (refine AWP.condT ?_ ?_; (focus (simp [go_sem]; done)))
      | (refine AWP.condF ?_ ?_; (focus (simp [go_sem]; done)))
      | (apply AWP.rE; (focus (simp [go_sem]; exact ⟨rfl, rfl⟩)); try dsimp only [thn, inBlk])
      | fail)
    refine AWP.callE (by simp [go_sem, h8, h8']; exact ⟨rfl, rfl, rfl, rfl, rfl⟩) (by kernel_rfl) ?_
    refine (servers_calls bi2 k7).mono ?_
    rintro r h9 ⟨a9, c9, rfl, k9⟩
    have hmx : ((srvL L2).length : Int) ≤ 8 := by rw [srvL_len]; have := bi2.mx; omega
    refine awpL_restE (by simp [go_sem, hmx]; exact ⟨rfl, rfl⟩) ?_; try dsimp only [thn, inBlk]
    (repeat' first
      | refine AWP.seq ?_
      | refine AWP.block ?_
      | (refine AWP.skip ?_; try dsimp only [thn, inBlk])
      | (refine AWP.exit ?_; try simp only [thn, inBlk, if_true, reduceIte, Nat.reduceEqDiff])
      | (refine AWP.ret ?_; try dsimp only [thn, inBlk])
      | (refine AWP.condT ?_ ?_; (focus (simp [go_sem]; done)))
      | (refine AWP.condF ?_ ?_; (focus (simp [go_sem]; done)))
      | (apply AWP.rE; (focus (simp [go_sem]; exact ⟨rfl, rfl⟩)); try dsimp only [thn, inBlk])
      | fail)
    simp [bodyQ, thn, inBlk, resA, resV, go_sem]
end L11
