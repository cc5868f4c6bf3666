import Derived.Test.YtijnhagjfkfgcaaL12b
open Go Ab Go.Proofs
namespace L12
set_option autoImplicit false
set_option linter.unusedSimpArgs false
set_option linter.unusedVariables false

theorem old_calls {O : Old} {h : AHeap} {R : List Chunk} {t : Nat} {now : Int} {a : Au} (k : Own O h (cell t (.row [.int .i64 now] 2 1 true false) :: R)) (ha : a.Ok) (hn : I64 now) :
    ACalls Try.prog 17 #[auV a, .int .i64 1, ptr t] h fun v h' => v = .bool (abv now a.tm) ∧ Own O h' (cell t (.row [.int .i64 now] 2 1 true false) :: R) := by
  refine ACalls.of_awp (args := [auV a, .int .i64 1, ptr t]) (n := 10) Try.func17 rfl rfl (by show 3 ≤ 10; omega) ?_
  have hk := ha.ky
  have k1 := k.push (.row (au a) 35 19 true false)
  have c1 := k1.b1.obj
  (repeat' first
    | refine AWP.seq ?_
    | refine AWP.block ?_
    | (refine AWP.skip ?_; try dsimp only [thn, inBlk])
    | (refine AWP.exit ?_; try simp only [thn, inBlk, if_true])
    | (refine AWP.ret ?_; try dsimp only [thn, inBlk])
    | (refine AWP.condT ?_ ?_; (focus (simp [go_sem, hk, c1]; done)))
    | (refine AWP.condF ?_ ?_; (focus (simp [go_sem, hk, c1]; done)))
    | (apply AWP.rE; (focus (simp [go_sem, hk, c1]; exact ⟨rfl, rfl⟩)); try dsimp only [thn, inBlk])
    | fail)
  refine AWP.callE (by simp [go_sem, hk, c1]; exact ⟨rfl, rfl, rfl, rfl, rfl⟩) (by kernel_rfl) ?_
  refine (above_calls hn ha.tm).mono ?_
  rintro v h2 ⟨rfl, rfl⟩
  refine awpL_restE (by simp [go_sem]; exact ⟨rfl, rfl⟩) ?_; try dsimp only [thn, inBlk]
  (repeat' first
    | refine AWP.seq ?_
    | refine AWP.block ?_
    | (refine AWP.skip ?_; try dsimp only [thn, inBlk])
    | (refine AWP.exit ?_; try simp only [thn, inBlk, if_true])
    | (refine AWP.ret ?_; try dsimp only [thn, inBlk])
    | (refine AWP.condT ?_ ?_; (focus (simp [go_sem]; done)))
    | (refine AWP.condF ?_ ?_; (focus (simp [go_sem]; done)))
    | (apply AWP.rE; (focus (simp [go_sem]; exact ⟨rfl, rfl⟩)); try dsimp only [thn, inBlk])
    | fail)
  simp [bodyQ, thn, inBlk, resA, resV, go_sem]
  exact k1.tail

open Classical in
theorem filt_del {zs0 : List ((Au × Unit) × Nat)} {now : Int} {seen : Array Nat} {z : (Au × Unit) × Nat} (hb : (zs0.map (·.2)).Nodup) (hk : (zs0.map (·.1.1)).Nodup) (hz : z ∈ zs0) (hd : abv now z.1.1.tm = true) :
    (zs0.filter fun y => !(decide (y.2 ∈ seen) && abv now y.1.1.tm)).filter (fun y => !decide (y.1.1 = z.1.1)) = zs0.filter fun y => !(decide (y.2 ∈ seen.push z.2) && abv now y.1.1.tm) := by
  rw [List.filter_filter]
  apply List.filter_congr
  intro y hy
  by_cases e : y.1.1 = z.1.1
  · have : y = z := inj_of_nodup (f := fun y => y.1.1) hk hy hz e
    subst this
    simp [hd]
  · have : y.2 ≠ z.2 := fun e2 => e (by rw [inj_of_nodup (f := fun y => y.2) hb hy hz e2])
    simp [e, this]
theorem filt_keep {zs0 : List ((Au × Unit) × Nat)} {now : Int} {seen : Array Nat} {z : (Au × Unit) × Nat} (hb : (zs0.map (·.2)).Nodup) (hz : z ∈ zs0) (hd : abv now z.1.1.tm = false) :
    (zs0.filter fun y => !(decide (y.2 ∈ seen) && abv now y.1.1.tm)) = zs0.filter fun y => !(decide (y.2 ∈ seen.push z.2) && abv now y.1.1.tm) := by
  apply List.filter_congr
  intro y hy
  by_cases e : y.2 = z.2
  · have : y = z := inj_of_nodup (f := fun y => y.2) hb hy hz e
    subst this
    simp [hd]
  · simp [e]
theorem less {zs0 : List ((Au × Unit) × Nat)} {seen : Array Nat} {z : (Au × Unit) × Nat} (hz : z ∈ zs0) (hn : z.2 ∉ seen) :
    (zs0.filter fun y => !decide (y.2 ∈ seen.push z.2)).length < (zs0.filter fun y => !decide (y.2 ∈ seen)).length := by
  have : (zs0.filter fun y => !decide (y.2 ∈ seen.push z.2)) = (zs0.filter fun y => !decide (y.2 ∈ seen)).filter fun y => !decide (y.2 = z.2) := by
    rw [List.filter_filter]
    apply List.filter_congr
    intro y hy
    simp; rw [Bool.and_comm]
  rw [this]
  rw [List.length_filter_lt_length_iff_exists]
  exact ⟨z, by simp [hz, hn], by simp⟩

set_option maxHeartbeats 4000000 in
theorem deleteFunc_calls {O : Old} {h : AHeap} {R : List Chunk} {m t : Nat} {l : List Au} {now : Int} (k : Own O h (mpc auV one m (l.map fun a => (a, ())) :: cell t (.row [.int .i64 now] 2 1 true false) :: R)) (hl : ∀ a ∈ l, a.Ok) (hnd : l.Nodup) (hn : I64 now) :
    ACalls Try.prog 16 #[.map (some m), .func (.func 17) #[] #[ptr t]] h fun v h' => Own O h' (mpc auV one m ((l.filter fun a => !abv now a.tm).map fun a => (a, ())) :: cell t (.row [.int .i64 now] 2 1 true false) :: R) := by
  obtain ⟨zs0, clock, hz1, hz2, hz3, k1⟩ := mpc_mpz.1 k
  have hkeys : (zs0.map (·.1.1)) = l := by
    have := congrArg (List.map Prod.fst) hz1
    simpa [List.map_map, Function.comp_def] using this
  have hok : ∀ z ∈ zs0, z.1.1.Ok := fun z hz => hl _ (by rw [← hkeys]; exact List.mem_map_of_mem hz)
  have hkn : (zs0.map (·.1.1)).Nodup := by rw [hkeys]; exact hnd
  refine ACalls.of_awp (args := [.map (some m), .func (.func 17) #[] #[ptr t]]) (n := 19) Try.func16 rfl rfl (by show 2 ≤ 19; omega) ?_
  have e1 := k1.rangeW (P := Try.prog) (t := 47) Try.underlying47
  have k2 := k1.push (.other (.mapIter (some m) clock #[] clock))
  (repeat' first
    | refine AWP.seq ?_
    | refine AWP.block ?_
    | (refine AWP.skip ?_; try dsimp only [thn, inBlk])
    | (refine AWP.exit ?_; try simp only [thn, inBlk, if_true])
    | (refine AWP.ret ?_; try dsimp only [thn, inBlk])
    | (refine AWP.condT ?_ ?_; (focus (simp [go_sem, e1]; done)))
    | (refine AWP.condF ?_ ?_; (focus (simp [go_sem, e1]; done)))
    | (apply AWP.rE; (focus (simp [go_sem, e1]; exact ⟨rfl, rfl⟩)); try dsimp only [thn, inBlk])
    | fail)
  refine AWP.loopR [0, 1, 7] (fun n s h' => ∃ seen : Array Nat, n = (zs0.filter fun y => !decide (y.2 ∈ seen)).length ∧ s = ⟨19, [(0, .map (some m)), (1, .func (.func 17) #[] #[ptr t]), (7, ptr h.next)]⟩ ∧
    Own O h' (cell h.next (.other (.mapIter (some m) clock seen clock)) :: mpz auV one m (zs0.filter fun y => !(decide (y.2 ∈ seen) && abv now y.1.1.tm)) clock :: cell t (.row [.int .i64 now] 2 1 true false) :: R)) ?_ ?_
  · refine ⟨_, #[], rfl, by simp [go_sem], ?_⟩
    have : (zs0.filter fun y => !(decide (y.2 ∈ (#[] : Array Nat)) && abv now y.1.1.tm)) = zs0 := by rw [List.filter_eq_self]; simp
    rw [this]; exact k2
  rintro n s h' ⟨seen, rfl, rfl, kt⟩
  refine AWP.seq ?_
  refine AWP.nextE rfl rfl rfl rfl (by simp [go_sem]; rfl) ?_
  refine kt.nextA auEnc.flat (fun z hz => hz3 z (List.mem_filter.1 hz).1) (Nat.le_refl _) ?_ ?_
  · intro hall
    refine awpL_restE (by simp [go_sem]; exact ⟨rfl, rfl⟩) ?_; try dsimp only [thn, inBlk]
    (repeat' first
      | refine AWP.seq ?_
      | refine AWP.block ?_
      | (refine AWP.skip ?_; try dsimp only [thn, inBlk])
      | (refine AWP.exit ?_; try simp only [thn, inBlk, if_true])
      | (refine AWP.ret ?_; try dsimp only [thn, inBlk])
      | (refine AWP.condT ?_ ?_; (focus (simp [go_sem]; done)))
      | (refine AWP.condF ?_ ?_; (focus (simp [go_sem]; done)))
      | (apply AWP.rE; (focus (simp [go_sem]; exact ⟨rfl, rfl⟩)); try dsimp only [thn, inBlk])
      | fail)
    simp [bodyQ, thn, inBlk, resA, resV, go_sem]
    have : (zs0.filter fun y => !(decide (y.2 ∈ seen) && abv now y.1.1.tm)) = zs0.filter fun y => !abv now y.1.1.tm := by
      apply List.filter_congr
      intro y hy
      by_cases hs : y.2 ∈ seen
      · simp [hs]
      · have := mt (hall y) hs
        simp [hy, hs] at this
    rw [this] at kt
    refine Own.sbl (L := mpc auV one m ((l.filter fun a => !abv now a.tm).map fun a => (a, ())) :: cell t (.row [.int .i64 now] 2 1 true false) :: R) (Sbl.rfl _) (mpc_mpz.2 ⟨_, clock, ?_, (List.Sublist.map _ List.filter_sublist).nodup hz2, fun z hz => hz3 z (List.mem_filter.1 hz).1, kt.tail⟩)
    rw [← hkeys, List.filter_map, List.map_map]
    rfl
  · intro z hz hns
    have k3 := kt.set (.other (.mapIter (some m) clock (seen.push z.2) clock))
    have e4 := k3.entryR auEnc.flat ((List.Sublist.map _ List.filter_sublist).nodup hz2) hz
    obtain ⟨⟨a, _⟩, b⟩ := z
    have hz' := (List.mem_filter.1 hz).1
    have ha : a.Ok := hok _ hz'
    have hk := ha.ky
    have hsl : setL [.string ⟨a.cl.toArray⟩, .int .i64 a.tm, .int .u64 a.no, .int .u8 0, .int .u8 0, .int .u8 0, .int .u8 0, .int .u8 0, .int .u8 0, .int .u8 0, .int .u8 0, .int .u8 0, .int .u8 0, .int .u8 0, .int .u8 0, .int .u8 0, .int .u8 0, .int .u8 0, .int .u8 0] 3 (a.ky.map B) = au a :=
      setL_full (a.ky.map B) [.string ⟨a.cl.toArray⟩, .int .i64 a.tm, .int .u64 a.no] _ (by simp [hk])
    simp only at e4
    generalize hh3 : h'.set h.next (.other (.mapIter (some m) clock (seen.push b) clock)) = h3 at *
    have k4 := k3.push (.row (au a) 35 19 true false)
    refine awpL_restE (by simp [go_sem]; exact ⟨rfl, rfl⟩) ?_; try dsimp only [thn, inBlk]
    (repeat' first
      | refine AWP.seq ?_
      | refine AWP.block ?_
      | (refine AWP.skip ?_; try dsimp only [thn, inBlk])
      | (refine AWP.exit ?_; try simp only [thn, inBlk, if_true])
      | (refine AWP.ret ?_; try dsimp only [thn, inBlk])
      | (refine AWP.condT ?_ ?_; (focus (simp [go_sem, e4, hk, hsl]; done)))
      | (refine AWP.condF ?_ ?_; (focus (simp [go_sem, e4, hk, hsl]; done)))
      | (apply AWP.rE; (focus (simp [go_sem, e4, hk, hsl]; exact ⟨rfl, rfl⟩)); try dsimp only [thn, inBlk])
      | fail)
    have t16 : List.take 16 (a.ky.map B) = a.ky.map B := List.take_of_length_le (by simp [hk])
    have t16' : List.take 16 a.ky = a.ky := List.take_of_length_le (by omega)
    refine AWP.callE (by simp [go_sem, hk, t16, t16']; exact ⟨rfl, rfl, rfl, rfl, rfl⟩) (by kernel_rfl) ?_
    refine (old_calls (t := t) (a := a) (now := now) (k4.b3) ha hn).mono ?_
    rintro v h5 ⟨rfl, k5⟩
    have c5 := k5.b1.obj
    cases hd : abv now a.tm with
    | true =>
      obtain ⟨h6, e6, _, k6⟩ := k5.b3.delZ auEnc (P := Try.prog) (t := 47) Try.underlying47 hz (fun z hz => hok z (List.mem_filter.1 hz).1) ((List.Sublist.map _ List.filter_sublist).nodup hkn)
      simp only at e6
      refine awpL_restE (by simp [go_sem]; exact ⟨rfl, rfl⟩) ?_; try dsimp only [thn, inBlk]
      (repeat' first
        | refine AWP.seq ?_
        | refine AWP.block ?_
        | (refine AWP.skip ?_; try dsimp only [thn, inBlk])
        | (refine AWP.exit ?_; try simp only [thn, inBlk, if_true])
        | (refine AWP.ret ?_; try dsimp only [thn, inBlk])
        | (refine AWP.condT ?_ ?_; (focus (simp [go_sem, hk, c5, t16, t16', e6]; done)))
        | (refine AWP.condF ?_ ?_; (focus (simp [go_sem, hk, c5, t16, t16', e6]; done)))
        | (apply AWP.rE; (focus (simp [go_sem, hk, c5, t16, t16', e6]; exact ⟨rfl, rfl⟩)); try dsimp only [thn, inBlk])
        | fail)
      refine ⟨_, less hz' hns, seen.push b, rfl, by simp [go_sem], ?_⟩
      rw [filt_del hz2 hkn hz' hd] at k6
      (refine Own.sbl ?_ (k6); repeat' first | exact Sbl.nil _ | with_reducible exact Sbl.rfl _ | (apply Sbl.cons) | (apply Sbl.skip) | with_reducible exact Fnd.head _ _ | (apply Fnd.tail))
    | false =>
      refine awpL_restE (by simp [go_sem]; exact ⟨rfl, rfl⟩) ?_; try dsimp only [thn, inBlk]
      (repeat' first
        | refine AWP.seq ?_
        | refine AWP.block ?_
        | (refine AWP.skip ?_; try dsimp only [thn, inBlk])
        | (refine AWP.exit ?_; try simp only [thn, inBlk, if_true])
        | (refine AWP.ret ?_; try dsimp only [thn, inBlk])
        | (refine AWP.condT ?_ ?_; (focus (simp [go_sem, hk, c5, t16, t16']; done)))
        | (refine AWP.condF ?_ ?_; (focus (simp [go_sem, hk, c5, t16, t16']; done)))
        | (apply AWP.rE; (focus (simp [go_sem, hk, c5, t16, t16']; exact ⟨rfl, rfl⟩)); try dsimp only [thn, inBlk])
        | fail)
      refine ⟨_, less hz' hns, seen.push b, rfl, by simp [go_sem], ?_⟩
      rw [filt_keep hz2 hz' hd] at k5
      (refine Own.sbl ?_ (k5); repeat' first | exact Sbl.nil _ | with_reducible exact Sbl.rfl _ | (apply Sbl.cons) | (apply Sbl.skip) | with_reducible exact Fnd.head _ _ | (apply Fnd.tail))
end L12
