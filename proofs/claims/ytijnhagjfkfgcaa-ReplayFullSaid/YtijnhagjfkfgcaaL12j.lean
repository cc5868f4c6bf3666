import Derived.Test.YtijnhagjfkfgcaaL12i
open Go Ab Go.Proofs
namespace L12
set_option autoImplicit false
set_option linter.unusedSimpArgs false
set_option linter.unusedVariables false

theorem au_all' {l : List Au} (h : ∀ a ∈ l, a.Wf) : ∀ x ∈ l.map au, x.length = 19 := fun x hx => by
  obtain ⟨a, ha, rfl⟩ := List.mem_map.1 hx
  simp [(h a ha).ky]
theorem au_set {a : Au} (h : a.ky.length = 16) : setL [.string ⟨a.cl.toArray⟩, .int .i64 a.tm, .int .u64 a.no, .int .u8 0, .int .u8 0, .int .u8 0, .int .u8 0, .int .u8 0, .int .u8 0, .int .u8 0, .int .u8 0, .int .u8 0, .int .u8 0, .int .u8 0, .int .u8 0, .int .u8 0, .int .u8 0, .int .u8 0, .int .u8 0] 3 (a.ky.map B) = au a :=
  setL_full (a.ky.map B) [.string ⟨a.cl.toArray⟩, .int .i64 a.tm, .int .u64 a.no] _ (by simp [h])

abbrev xr (t : Int) : Au := ⟨[120, 64, 82], t, 0, [0, 0, 0, 0, 0, 0, 0, 0, 0, 0, 0, 0, 0, 0, 0, 0]⟩
theorem xr_ok {t : Int} (h : I64 t) : (xr t).Ok := ⟨by simp, h, by simp, rfl⟩
theorem low_left {L : List Au} {now : Int} (h : ∀ x ∈ L, x.tm ≤ now + 10) : left L (now + 21) = [] := by
  unfold left
  rw [List.filter_eq_nil_iff]
  intro x hx
  have := h x hx
  simp [abv]; omega
theorem low_seen {L : List Au} {u now : Int} {a : Au} (h : ∀ x ∈ L, x.tm ≤ now + 10) (ha : a.tm ≤ now + 10) : ∀ x ∈ (seenR L false u a now).2, x.tm ≤ now + 10 := by
  have hl : ∀ x ∈ left L now, x.tm ≤ now + 10 := fun x hx => h x ((left_sub L now).subset hx)
  rcases seen_cases L false u a now with ⟨_, e | e⟩ | ⟨e, _⟩
  · rw [e]; exact h
  · rw [e]; exact hl
  · rw [e]
    intro x hx
    rcases List.mem_append.1 hx with hx | hx
    · exact hl x hx
    · simp at hx; subst hx; exact ha

set_option maxHeartbeats 8000000 in
theorem later_calls {h : AHeap} {v : Value} {l : List Au} {now : Int} (hb : h.base = h.next) (hs : Sl 19 h v l.length (l.map au).flatten) (hw : ∀ a ∈ l, a.Wf) (hn : I64 now) :
    ACalls Try.prog 5 #[v, .int .i64 now] h fun r _ => r = .bool true := by
  refine Own.of_wf fun k0 => ?_
  obtain ⟨va, vc, rfl⟩ := hs.val
  refine ACalls.of_awp (args := [.slice va l.length vc, .int .i64 now]) (n := 62) Try.func5 rfl rfl (by show 2 ≤ 62; omega) ?_
  have HS : ∀ {hh : AHeap} {L : List Chunk}, Own h.asOld hh L → Sl 19 hh (.slice va l.length vc) l.length (l.map au).flatten := fun o => Sl.of_old hs hb o
  (repeat' first
    | refine AWP.seq ?_
    | refine AWP.block ?_
    | (refine AWP.skip ?_; try dsimp only [thn, inBlk])
    | (refine AWP.exit ?_; try simp only [thn, inBlk, if_true])
    | (refine AWP.ret ?_; try dsimp only [thn, inBlk])
    | (refine AWP.condT ?_ ?_; (focus (simp [go_sem]; done)))
    | (refine AWP.condF ?_ ?_; (focus (simp [go_sem]; done)))
    | (apply AWP.rE; (focus (simp [go_sem]; exact ⟨rfl, rfl⟩)); try dsimp only [thn, inBlk])
    | fail)
  refine AWP.callE (by simp [go_sem]; exact ⟨rfl, rfl, rfl, rfl, rfl⟩) (by kernel_rfl) ?_
  refine (speaks_calls k0).mono ?_
  rintro r h1 ⟨rfl, k1⟩
  refine awpL_restE (by simp [go_sem]; exact ⟨rfl, rfl⟩) ?_; try dsimp only [thn, inBlk]
  by_cases h100 : 100 < l.length
  · have h100' : (100 : Int) < l.length := by omega
    (repeat' first
      | refine AWP.seq ?_
      | refine AWP.block ?_
      | (refine AWP.skip ?_; try dsimp only [thn, inBlk])
      | (refine AWP.exit ?_; try simp only [thn, inBlk, if_true])
      | (refine AWP.ret ?_; try dsimp only [thn, inBlk])
      | (refine AWP.condT ?_ ?_; (focus (simp [go_sem, h100']; done)))
      | (refine AWP.condF ?_ ?_; (focus (simp [go_sem, h100']; done)))
      | (apply AWP.rE; (focus (simp [go_sem, h100']; exact ⟨rfl, rfl⟩)); try dsimp only [thn, inBlk])
      | fail)
    simp [bodyQ, thn, inBlk, resA, resV, go_sem]
  have h100' : ¬ (100 : Int) < l.length := by omega
  by_cases hn0 : now < 0
  · (repeat' first
      | refine AWP.seq ?_
      | refine AWP.block ?_
      | (refine AWP.skip ?_; try dsimp only [thn, inBlk])
      | (refine AWP.exit ?_; try simp only [thn, inBlk, if_true])
      | (refine AWP.ret ?_; try dsimp only [thn, inBlk])
      | (refine AWP.condT ?_ ?_; (focus (simp [go_sem, h100', hn0]; done)))
      | (refine AWP.condF ?_ ?_; (focus (simp [go_sem, h100', hn0]; done)))
      | (apply AWP.rE; (focus (simp [go_sem, h100', hn0]; exact ⟨rfl, rfl⟩)); try dsimp only [thn, inBlk])
      | fail)
    simp [bodyQ, thn, inBlk, resA, resV, go_sem]
  by_cases hn1 : 1099511627776 < now
  · (repeat' first
      | refine AWP.seq ?_
      | refine AWP.block ?_
      | (refine AWP.skip ?_; try dsimp only [thn, inBlk])
      | (refine AWP.exit ?_; try simp only [thn, inBlk, if_true])
      | (refine AWP.ret ?_; try dsimp only [thn, inBlk])
      | (refine AWP.condT ?_ ?_; (focus (simp [go_sem, h100', hn0, hn1]; done)))
      | (refine AWP.condF ?_ ?_; (focus (simp [go_sem, h100', hn0, hn1]; done)))
      | (apply AWP.rE; (focus (simp [go_sem, h100', hn0, hn1]; exact ⟨rfl, rfl⟩)); try dsimp only [thn, inBlk])
      | fail)
    simp [bodyQ, thn, inBlk, resA, resV, go_sem]
  (repeat' first
    | refine AWP.seq ?_
    | refine AWP.block ?_
    | (refine AWP.skip ?_; try dsimp only [thn, inBlk])
    | (refine AWP.exit ?_; try simp only [thn, inBlk, if_true])
    | (refine AWP.ret ?_; try dsimp only [thn, inBlk])
    | (refine AWP.condT ?_ ?_; (focus (simp [go_sem, h100', hn0, hn1]; done)))
    | (refine AWP.condF ?_ ?_; (focus (simp [go_sem, h100', hn0, hn1]; done)))
    | (apply AWP.rE; (focus (simp [go_sem, h100', hn0, hn1]; exact ⟨rfl, rfl⟩)); try dsimp only [thn, inBlk])
    | fail)
  refine AWP.callE (by simp [go_sem]; exact ⟨rfl, rfl, rfl, rfl, rfl⟩) (by kernel_rfl) ?_
  refine (new_calls k1 now).mono ?_
  rintro r h3 ⟨i, rfl, k3⟩
  refine awpL_restE (by simp [go_sem]; exact ⟨rfl, rfl⟩) ?_; try dsimp only [thn, inBlk]
  (repeat' first
    | refine AWP.seq ?_
    | refine AWP.block ?_
    | (refine AWP.skip ?_; try dsimp only [thn, inBlk])
    | (refine AWP.exit ?_; try simp only [thn, inBlk, if_true])
    | (refine AWP.ret ?_; try dsimp only [thn, inBlk])
    | (refine AWP.condT ?_ ?_; (focus (simp [go_sem]; done)))
    | (refine AWP.condF ?_ ?_; (focus (simp [go_sem]; done)))
    | (apply AWP.rE; (focus (simp [go_sem]; exact ⟨rfl, rfl⟩)); try dsimp only [thn, inBlk])
    | fail)
  refine AWP.loopR [1, 5, 26, 27, 28] (fun m s h' => ∃ (j : Nat) (L : List Au), j ≤ l.length ∧ m = l.length - j ∧ s = ⟨62, [(1, .int .i64 now), (5, ptr i), (26, .slice va l.length vc), (27, .int .i64 l.length), (28, .int .i64 j)]⟩ ∧
    Cok L now ∧ (∀ x ∈ L, x.tm ≤ now + 10) ∧ Own h.asOld h' [cch i L false now]) ?_ ?_
  · exact ⟨_, 0, [], by omega, rfl, by simp [go_sem], Cok.nil hn, by simp, k3⟩
  rintro m s h' ⟨j, L, hj, rfl, rfl, ku, hlow, kt⟩
  by_cases hj2 : j < l.length
  rotate_left
  · have hj3 : ¬ (j : Int) < l.length := by omega
    have hll := low_left hlow
    have w21 : IntKind.i64.wrap (now + 21) = now + 21 := wI64 (by omega) (by omega)
    have i21 : I64 (now + 21) := ⟨by omega, by omega⟩
    (repeat' first
      | refine AWP.seq ?_
      | refine AWP.block ?_
      | (refine AWP.skip ?_; try dsimp only [thn, inBlk])
      | (refine AWP.exit ?_; try simp only [thn, inBlk, if_true])
      | (refine AWP.ret ?_; try dsimp only [thn, inBlk])
      | (refine AWP.condT ?_ ?_; (focus (simp [go_sem, hj3]; done)))
      | (refine AWP.condF ?_ ?_; (focus (simp [go_sem, hj3]; done)))
      | (apply AWP.rE; (focus (simp [go_sem, hj3]; exact ⟨rfl, rfl⟩)); try dsimp only [thn, inBlk])
      | fail)
    refine AWP.callE (by simp [go_sem, w21]; exact ⟨rfl, rfl, rfl, rfl, rfl⟩) (by kernel_rfl) ?_
    refine (seen_calls (a := xr (now + 21)) (now := now + 21) kt ku (xr_ok i21) i21).mono ?_
    have e3 : seenR L false now (xr (now + 21)) (now + 21) = (0, [xr (now + 21)]) := by
      have h1 : ¬ (abv (xr (now + 21)).tm (now + 21) = true ∨ abv (now + 21) (xr (now + 21)).tm = true) := by simp [abv]; omega
      have h2 : ¬ (false = true ∧ abv (xr (now + 21)).tm now = false) := by rintro ⟨h, _⟩; cases h
      have h3 : ¬ xr (now + 21) ∈ left L (now + 21) := by rw [hll]; simp
      have h4 : ¬ 16 ≤ (left L (now + 21)).length := by rw [hll]; simp
      unfold seenR
      rw [if_neg h1, if_neg h2, if_neg h3, if_neg h4, hll]
      rfl
    rw [e3]
    rintro r h4 ⟨rfl, k4⟩
    refine awpL_restE (by simp [go_sem]; exact ⟨rfl, rfl⟩) ?_; try dsimp only [thn, inBlk]
    (repeat' first
      | refine AWP.seq ?_
      | refine AWP.block ?_
      | (refine AWP.skip ?_; try dsimp only [thn, inBlk])
      | (refine AWP.exit ?_; try simp only [thn, inBlk, if_true])
      | (refine AWP.ret ?_; try dsimp only [thn, inBlk])
      | (refine AWP.condT ?_ ?_; (focus (simp [go_sem]; done)))
      | (refine AWP.condF ?_ ?_; (focus (simp [go_sem]; done)))
      | (apply AWP.rE; (focus (simp [go_sem]; exact ⟨rfl, rfl⟩)); try dsimp only [thn, inBlk])
      | fail)
    refine AWP.callE (by simp [go_sem]; exact ⟨rfl, rfl, rfl, rfl, rfl⟩) (by kernel_rfl) ?_
    refine (len_calls k4).mono ?_
    rintro r h5 ⟨rfl, rfl⟩
    refine awpL_restE (by simp [go_sem]; exact ⟨rfl, rfl⟩) ?_; try dsimp only [thn, inBlk]
    (repeat' first
      | refine AWP.seq ?_
      | refine AWP.block ?_
      | (refine AWP.skip ?_; try dsimp only [thn, inBlk])
      | (refine AWP.exit ?_; try simp only [thn, inBlk, if_true])
      | (refine AWP.ret ?_; try dsimp only [thn, inBlk])
      | (refine AWP.condT ?_ ?_; (focus (simp [go_sem]; done)))
      | (refine AWP.condF ?_ ?_; (focus (simp [go_sem]; done)))
      | (apply AWP.rE; (focus (simp [go_sem]; exact ⟨rfl, rfl⟩)); try dsimp only [thn, inBlk])
      | fail)
    simp [bodyQ, thn, inBlk, resA, resV, go_sem]
  have hj3 : (j : Int) < l.length := by omega
  have wj : IntKind.i64.wrap ((j : Int) + 1) = ((j + 1 : Nat) : Int) := by rw [wI64 (by omega) (by omega)]; omega
  obtain ⟨bi, bo, bc, be, bz, bt, br, p0, q0, g3, g2, _⟩ := Sl.record (P := Try.prog) (t := 28) (l := l.map au) Try.underlying28 tsz35 (HS kt) (au_all' hw) (by simp) hj2 (kd := .i64)
  rw [List.getElem_map] at g2
  have hx := hw _ (List.getElem_mem hj2)
  have hk := hx.ky
  have hsl := au_set hk
  have q0' : (h'.push (.row [.string ⟨#[]⟩, .int .i64 0, .int .u64 0, .int .u8 0, .int .u8 0, .int .u8 0, .int .u8 0, .int .u8 0, .int .u8 0, .int .u8 0, .int .u8 0, .int .u8 0, .int .u8 0, .int .u8 0, .int .u8 0, .int .u8 0, .int .u8 0, .int .u8 0, .int .u8 0] 35 19 true false)).obj bi = some (.row bc be bz bt br) := by
    rw [push_ne _ _ _ (fun e => by rw [e, kt.bnd _ (Nat.le_refl _)] at q0; cases q0)]; exact q0
  generalize l[j] = x at *
  by_cases hcl : 100 < x.cl.length
  · have hcl' : (100 : Int) < (x.cl.length : Int) := by omega
    (repeat' first
      | refine AWP.seq ?_
      | refine AWP.block ?_
      | (refine AWP.skip ?_; try dsimp only [thn, inBlk])
      | (refine AWP.exit ?_; try simp only [thn, inBlk, if_true])
      | (refine AWP.ret ?_; try dsimp only [thn, inBlk])
      | (refine AWP.condT ?_ ?_; (focus (simp [go_sem, hj3, p0, q0, q0', g3, g2, hsl, hk, hcl']; done)))
      | (refine AWP.condF ?_ ?_; (focus (simp [go_sem, hj3, p0, q0, q0', g3, g2, hsl, hk, hcl']; done)))
      | (apply AWP.rE; (focus (simp [go_sem, hj3, p0, q0, q0', g3, g2, hsl, hk, hcl']; exact ⟨rfl, rfl⟩)); try dsimp only [thn, inBlk])
      | fail)
    simp [bodyQ, thn, inBlk, resA, resV, go_sem]
  have hcl' : ¬ (100 : Int) < (x.cl.length : Int) := by omega
  obtain ⟨q, hq⟩ : ∃ q : Nat, q = j % 21 := ⟨_, rfl⟩
  have hq21 : q < 21 := by omega
  have hq1 : (j : Int).tmod 21 = (q : Int) := by rw [hq]; exact tmod_nat j 21
  have wq1 : IntKind.i64.wrap (now + (q : Int)) = now + q := wI64 (by omega) (by omega)
  have wq2 : IntKind.i64.wrap (now + (q : Int) - 10) = now + q - 10 := wI64 (by omega) (by omega)
  (repeat' first
    | refine AWP.seq ?_
    | refine AWP.block ?_
    | (refine AWP.skip ?_; try dsimp only [thn, inBlk])
    | (refine AWP.exit ?_; try simp only [thn, inBlk, if_true])
    | (refine AWP.ret ?_; try dsimp only [thn, inBlk])
    | (refine AWP.condT ?_ ?_; (focus (simp [go_sem, hj3, p0, q0, q0', g3, g2, hsl, hk, hcl', hq1, wq1, wq2]; done)))
    | (refine AWP.condF ?_ ?_; (focus (simp [go_sem, hj3, p0, q0, q0', g3, g2, hsl, hk, hcl', hq1, wq1, wq2]; done)))
    | (apply AWP.rE; (focus (simp [go_sem, hj3, p0, q0, q0', g3, g2, hsl, hk, hcl', hq1, wq1, wq2]; exact ⟨rfl, rfl⟩)); try dsimp only [thn, inBlk])
    | fail)
  obtain ⟨x2, hx2⟩ : ∃ x2 : Au, x2 = ⟨x.cl, now + q - 10, x.no, x.ky⟩ := ⟨_, rfl⟩
  have ho2 : x2.Ok := by rw [hx2]; exact ⟨by show x.cl.length ≤ 1000; omega, ⟨by show -9223372036854775808 ≤ now + q - 10; omega, by show now + q - 10 ≤ 9223372036854775807; omega⟩, hx.no, hk⟩
  have k5 := kt.push (.row (au x2) 35 19 true false)
  have hs2 := low_seen (u := now) hlow (a := x2) (by rw [hx2]; show now + q - 10 ≤ now + 10; omega)
  have t16 : List.take 16 (x.ky.map B) = x.ky.map B := List.take_of_length_le (by simp [hk])
  have t16' : List.take 16 x.ky = x.ky := List.take_of_length_le (by omega)
  have kc := ku.seen (c := false) ho2 now
  refine AWP.callE (by simp [go_sem, hk, t16, t16']; exact ⟨rfl, rfl, rfl, rfl, rfl⟩) (by kernel_rfl) ?_
  have hcall := seen_calls (a := x2) (now := now) k5.b1 ku ho2 hn
  generalize seenR L false now x2 now = E at *
  subst hx2
  refine hcall.mono ?_
  rintro r h5 ⟨rfl, k6⟩
  refine awpL_restE (by simp [go_sem]; exact ⟨rfl, rfl⟩) ?_; try dsimp only [thn, inBlk]
  (repeat' first
    | refine AWP.seq ?_
    | refine AWP.block ?_
    | (refine AWP.skip ?_; try dsimp only [thn, inBlk])
    | (refine AWP.exit ?_; try simp only [thn, inBlk, if_true])
    | (refine AWP.ret ?_; try dsimp only [thn, inBlk])
    | (refine AWP.condT ?_ ?_; (focus (simp [go_sem, wj]; done)))
    | (refine AWP.condF ?_ ?_; (focus (simp [go_sem, wj]; done)))
    | (apply AWP.rE; (focus (simp [go_sem, wj]; exact ⟨rfl, rfl⟩)); try dsimp only [thn, inBlk])
    | fail)
  refine ⟨l.length - (j + 1), by omega, j + 1, E.2, by omega, rfl, by simp [go_sem], kc, hs2, ?_⟩
  (refine Own.sbl ?_ (k6); repeat' first | exact Sbl.nil _ | with_reducible exact Sbl.rfl _ | (apply Sbl.cons) | (apply Sbl.skip) | with_reducible exact Fnd.head _ _ | (apply Fnd.tail))
end L12
