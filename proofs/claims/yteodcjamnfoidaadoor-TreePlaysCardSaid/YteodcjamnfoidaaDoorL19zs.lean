import Derived.Test.YteodcjamnfoidaaDoorL19zr
open Go Ab Go.Proofs
namespace L19
set_option autoImplicit false
set_option linter.unusedSimpArgs false
set_option linter.unusedVariables false
section
variable {O : Old} {h : AHeap} {R : List Chunk} {i : Nat} {T xs : TL} {zs : List NZ}
theorem br_one {z : NZ} {n : Nat} (k : Own O h (cell n (.row (nz z) 43 5 true false) :: R)) (hb : Bytes h (.slice z.2.1 z.1.2.data.length z.2.2) z.1.2.data) : BR preN 5 h (.slice (some ⟨n, 0, none⟩) 1 1) [nk z.1] := by
  have k1 : Own O h (os 43 5 (.slice (some ⟨n, 0, none⟩) 1 1) 1 (nz z) :: R) := k.os_mk (Nat.le_refl _) (by simp) (by simp)
  refine ⟨[z.2], rfl, ?_, fun j f p hf hp => ?_⟩
  · exact k1.os_sl
  · rcases j with _ | j
    · simp at hf hp; subst hf; subst hp; exact hb
    · simp at hf
theorem star_bytes {z : NZ} (hz : z ∈ zs) (k : Own O h (star (zs.map sb) :: R)) : Bytes h (.slice z.2.1 z.1.2.data.length z.2.2) z.1.2.data := by
  obtain ⟨j, hj⟩ := List.mem_iff_getElem?.1 hz
  exact ((Own.star_iff.1 k).mem (A := sb z) (j := j) (by rw [List.getElem?_map, hj]; rfl)).ob_bytes
set_option maxHeartbeats 32000000 in
theorem look_calls {it im : Nat} {v : Value} {o : Op} {pa : Option Addr} {pc : Nat} (hT : TS T) (hr : RT T xs) (hz : zs.map (·.1) = xs) (hp : o.1.path.length ≤ 300) (k : Own O h (tr it T :: cell im (rrow v) :: nzs v zs :: star (zs.map sb) :: R)) :
    ACalls Tryd.prog 28 #[ptr it, ptr im, .agg (orow o pa pc).toArray] h fun r h' => r = .bool true ∧ Own O h' (tr it T :: cell im (rrow v) :: nzs v zs :: star (zs.map sb) :: R) := by
  refine ACalls.of_awp (args := [ptr it, ptr im, .agg (orow o pa pc).toArray]) (n := 138) Tryd.func28 rfl rfl (by show 3 ≤ 138; omega) ?_
  obtain ⟨⟨ok, om, ow, op, oo⟩, od⟩ := o
  dsimp only at hp
  have hX := hr.rx hT
  have hPx := hr.pa hT
  have hf := hr.find hT ow op
  have hrd := hr.read hT ow op
  have hls := hr.ls hT ow op
  have hgt := hr.get hT op
  have hks := hr.kids hT op
  obtain ⟨O5, hO5'⟩ : ∃ O5, O5 = AObj.row [.int .i64 ok, .int .i64 om, tx ow, tx op, tx oo, .slice pa od.length pc] 37 6 true false := ⟨_, rfl⟩
  have hO5 := hO5'.symm
  have k0 := k.push (.row [.int .i64 ok, .int .i64 om, tx ow, tx op, tx oo, .slice pa od.length pc] 37 6 true false)
  have c1 := k0.obj
  have k1 : Own O (h.push (.row [.int .i64 ok, .int .i64 om, tx ow, tx op, tx oo, .slice pa od.length pc] 37 6 true false)) (cell h.next O5 :: tr it T :: cell im (rrow v) :: nzs v zs :: star (zs.map sb) :: R) := by rw [hO5']; exact k0
  (repeat' first
    | refine AWP.seq ?_
    | refine AWP.block ?_
    | (refine AWP.skip ?_; try dsimp only [thn, inBlk])
    | (refine AWP.exit ?_; try simp only [thn, inBlk, if_true, reduceIte, Nat.reduceEqDiff])
    | (refine AWP.ret ?_; try dsimp only [thn, inBlk])
    | (refine AWP.condT ?_ ?_; (focus (simp [go_sem]; done)))
    | (refine AWP.condF ?_ ?_; (focus (simp [go_sem]; done)))
    | (apply AWP.rE; (focus (simp [go_sem]; exact ⟨rfl, rfl⟩)); try dsimp only [thn, inBlk])
    | fail)
  refine AWP.callE (by simp [go_sem, c1]; exact ⟨rfl, rfl, rfl, rfl, rfl⟩) (by kernel_rfl) ?_
  refine (stat_calls (who := ow) (p := op) hT.toTK k1.b1 (by omega)).mono ?_
  rintro r h2 ⟨z1, rfl, hz1, k2⟩
  have k3 := k2.push (.row (nz z1) 43 5 true false)
  have k3' : Own O (h2.push (.row (nz z1) 43 5 true false)) (cell im (rrow v) :: nzs v zs :: cell h2.next (.row (nz z1) 43 5 true false) :: sb z1 :: tr it T :: cell h.next O5 :: star (zs.map sb) :: R) := by
    (refine Own.sbl ?_ (k3); repeat' first | exact Sbl.nil _ | with_reducible exact Sbl.rfl _ | (apply Sbl.cons) | (apply Sbl.skip) | with_reducible exact Fnd.head _ _ | (apply Fnd.tail))
  have c3 := k3'.b5.obj
  rw [← hO5] at c3
  refine awpL_restE (by simp [go_sem]; exact ⟨rfl, rfl⟩) ?_; try dsimp only [thn, inBlk]
  (repeat' first
    | refine AWP.seq ?_
    | refine AWP.block ?_
    | (refine AWP.skip ?_; try dsimp only [thn, inBlk])
    | (refine AWP.exit ?_; try simp only [thn, inBlk, if_true, reduceIte, Nat.reduceEqDiff])
    | (refine AWP.ret ?_; try dsimp only [thn, inBlk])
    | (refine AWP.condT ?_ ?_; (focus (simp [go_sem]; done)))
    | (refine AWP.condF ?_ ?_; (focus (simp [go_sem]; done)))
    | (apply AWP.rE; (focus (simp [go_sem]; exact ⟨rfl, rfl⟩)); try dsimp only [thn, inBlk])
    | fail)
  refine AWP.callE (by simp [go_sem, c3]; exact ⟨rfl, rfl, rfl, rfl, rfl⟩) (by kernel_rfl) ?_
  refine (rstat_calls (who := ow) (p := op) hX hz k3' (by omega)).mono ?_
  rintro r h4 ⟨z2, rfl, hz2, k4⟩
  rw [hf] at hz2 ⊢
  have hzz : z1.1 = z2.1 := by
    rcases hz1 with ⟨a1, a2, a3⟩ | ⟨a1, a2⟩
    · rcases hz2 with ⟨b1, b2, b3, b4⟩ | ⟨b1, b2⟩
      · rw [hgt, a3] at b4
        have e := Option.some.inj b4
        obtain ⟨⟨p1, n1⟩, w1⟩ := z1
        obtain ⟨⟨p2, n2⟩, w2⟩ := z2
        dsimp only at a2 b3 e ⊢
        rw [a2, b3, e]
      · exact absurd a1 b1
    · rcases hz2 with ⟨b1, b2, b3, b4⟩ | ⟨b1, b2⟩
      · exact absurd b1 a1
      · rw [a2, b2]
  have k5 := k4.push (.row (nz z2) 43 5 true false)
  have k5' : Own O (h4.push (.row (nz z2) 43 5 true false)) (tr it T :: cell im (rrow v) :: nzs v zs :: cell h4.next (.row (nz z2) 43 5 true false) :: cell h2.next (.row (nz z1) 43 5 true false) :: sb z1 :: cell h.next O5 :: star (zs.map sb) :: R) := by
    (refine Own.sbl ?_ (k5); repeat' first | exact Sbl.nil _ | with_reducible exact Sbl.rfl _ | (apply Sbl.cons) | (apply Sbl.skip) | with_reducible exact Fnd.head _ _ | (apply Fnd.tail))
  have c5 := k5'.b6.obj
  rw [← hO5] at c5
  refine awpL_restE (by simp [go_sem]; exact ⟨rfl, rfl⟩) ?_; try dsimp only [thn, inBlk]
  (repeat' first
    | refine AWP.seq ?_
    | refine AWP.block ?_
    | (refine AWP.skip ?_; try dsimp only [thn, inBlk])
    | (refine AWP.exit ?_; try simp only [thn, inBlk, if_true, reduceIte, Nat.reduceEqDiff])
    | (refine AWP.ret ?_; try dsimp only [thn, inBlk])
    | (refine AWP.condT ?_ ?_; (focus (simp [go_sem]; done)))
    | (refine AWP.condF ?_ ?_; (focus (simp [go_sem]; done)))
    | (apply AWP.rE; (focus (simp [go_sem]; exact ⟨rfl, rfl⟩)); try dsimp only [thn, inBlk])
    | fail)
  refine AWP.callE (by simp [go_sem, c5]; exact ⟨rfl, rfl, rfl, rfl, rfl⟩) (by kernel_rfl) ?_
  refine (read_calls (who := ow) (p := op) hT.toTK k5' (by omega)).mono ?_
  rintro r h6 ⟨a6, n6, rfl, k6⟩
  have k6' : Own O h6 (cell im (rrow v) :: nzs v zs :: ob 5 (.slice a6 (rdR T ow op).2.length n6) (rdR T ow op).2 :: tr it T :: cell h4.next (.row (nz z2) 43 5 true false) :: cell h2.next (.row (nz z1) 43 5 true false) :: sb z1 :: cell h.next O5 :: star (zs.map sb) :: R) := by
    (refine Own.sbl ?_ (k6); repeat' first | exact Sbl.nil _ | with_reducible exact Sbl.rfl _ | (apply Sbl.cons) | (apply Sbl.skip) | with_reducible exact Fnd.head _ _ | (apply Fnd.tail))
  have c6 := k6'.b7.obj
  rw [← hO5] at c6
  refine awpL_restE (by simp [go_sem]; exact ⟨rfl, rfl⟩) ?_; try dsimp only [thn, inBlk]
  (repeat' first
    | refine AWP.seq ?_
    | refine AWP.block ?_
    | (refine AWP.skip ?_; try dsimp only [thn, inBlk])
    | (refine AWP.exit ?_; try simp only [thn, inBlk, if_true, reduceIte, Nat.reduceEqDiff])
    | (refine AWP.ret ?_; try dsimp only [thn, inBlk])
    | (refine AWP.condT ?_ ?_; (focus (simp [go_sem]; done)))
    | (refine AWP.condF ?_ ?_; (focus (simp [go_sem]; done)))
    | (apply AWP.rE; (focus (simp [go_sem]; exact ⟨rfl, rfl⟩)); try dsimp only [thn, inBlk])
    | fail)
  refine AWP.callE (by simp [go_sem, c6]; exact ⟨rfl, rfl, rfl, rfl, rfl⟩) (by kernel_rfl) ?_
  refine (rread_calls (who := ow) (p := op) hX hz (hr.dl hT) (fun z hzm hh kk => star_bytes hzm kk.b6) k6' (by omega)).mono ?_
  rintro r h8 ⟨a8, n8, rfl, k8⟩
  rw [hrd] at k8 ⊢
  have k8' : Own O h8 (tr it T :: cell im (rrow v) :: nzs v zs :: ob 5 (.slice a8 (rdR T ow op).2.length n8) (rdR T ow op).2 :: ob 5 (.slice a6 (rdR T ow op).2.length n6) (rdR T ow op).2 :: cell h4.next (.row (nz z2) 43 5 true false) :: cell h2.next (.row (nz z1) 43 5 true false) :: sb z1 :: cell h.next O5 :: star (zs.map sb) :: R) := by
    (refine Own.sbl ?_ (k8); repeat' first | exact Sbl.nil _ | with_reducible exact Sbl.rfl _ | (apply Sbl.cons) | (apply Sbl.skip) | with_reducible exact Fnd.head _ _ | (apply Fnd.tail))
  have c8 := k8'.b8.obj
  rw [← hO5] at c8
  refine awpL_restE (by simp [go_sem]; exact ⟨rfl, rfl⟩) ?_; try dsimp only [thn, inBlk]
  (repeat' first
    | refine AWP.seq ?_
    | refine AWP.block ?_
    | (refine AWP.skip ?_; try dsimp only [thn, inBlk])
    | (refine AWP.exit ?_; try simp only [thn, inBlk, if_true, reduceIte, Nat.reduceEqDiff])
    | (refine AWP.ret ?_; try dsimp only [thn, inBlk])
    | (refine AWP.condT ?_ ?_; (focus (simp [go_sem]; done)))
    | (refine AWP.condF ?_ ?_; (focus (simp [go_sem]; done)))
    | (apply AWP.rE; (focus (simp [go_sem]; exact ⟨rfl, rfl⟩)); try dsimp only [thn, inBlk])
    | fail)
  refine AWP.callE (by simp [go_sem, c8]; exact ⟨rfl, rfl, rfl, rfl, rfl⟩) (by kernel_rfl) ?_
  refine (list_calls (who := ow) (p := op) hT.toTK k8' (by omega)).mono ?_
  rintro r h10 ⟨a10, n10, S1, rfl, hS1, hS1', k10⟩
  have k10' : Own O h10 (cell im (rrow v) :: nzs v zs :: txs (.slice a10 S1.length n10) S1 :: tr it T :: ob 5 (.slice a8 (rdR T ow op).2.length n8) (rdR T ow op).2 :: ob 5 (.slice a6 (rdR T ow op).2.length n6) (rdR T ow op).2 :: cell h4.next (.row (nz z2) 43 5 true false) :: cell h2.next (.row (nz z1) 43 5 true false) :: sb z1 :: cell h.next O5 :: star (zs.map sb) :: R) := by
    (refine Own.sbl ?_ (k10); repeat' first | exact Sbl.nil _ | with_reducible exact Sbl.rfl _ | (apply Sbl.cons) | (apply Sbl.skip) | with_reducible exact Fnd.head _ _ | (apply Fnd.tail))
  have c10 : h10.obj h.next = some O5 := ((k8'.b8 |> fun _ => k10'.bring 9 rfl rfl)).obj
  rw [← hO5] at c10
  refine awpL_restE (by simp [go_sem]; exact ⟨rfl, rfl⟩) ?_; try dsimp only [thn, inBlk]
  (repeat' first
    | refine AWP.seq ?_
    | refine AWP.block ?_
    | (refine AWP.skip ?_; try dsimp only [thn, inBlk])
    | (refine AWP.exit ?_; try simp only [thn, inBlk, if_true, reduceIte, Nat.reduceEqDiff])
    | (refine AWP.ret ?_; try dsimp only [thn, inBlk])
    | (refine AWP.condT ?_ ?_; (focus (simp [go_sem]; done)))
    | (refine AWP.condF ?_ ?_; (focus (simp [go_sem]; done)))
    | (apply AWP.rE; (focus (simp [go_sem]; exact ⟨rfl, rfl⟩)); try dsimp only [thn, inBlk])
    | fail)
  refine AWP.callE (by simp [go_sem, c10]; exact ⟨rfl, rfl, rfl, rfl, rfl⟩) (by kernel_rfl) ?_
  refine (rlist_calls (who := ow) (p := op) hX hPx hz k10' (by omega)).mono ?_
  rintro r h12 ⟨a12, n12, S2, rfl, hS2, hS2', k12⟩
  rw [hls] at hS2 hS2' ⊢
  have hSS : S2 = S1 := by
    by_cases e : lsE T ow op = 0
    · obtain ⟨p1, p2⟩ := hS2 e
      rw [hS1 e]
      exact Sd_eq p2 (srt_Sd _) ((p1.trans hks).trans (List.mergeSort_perm _ _).symm)
    · rw [hS2' e, hS1' e]
  subst hSS
  have hSl : S2.length ≤ 1000000 := by
    by_cases e : lsE T ow op = 0
    · obtain ⟨p1, _⟩ := hS2 e
      rw [p1.length_eq]
      simp only [kids, List.length_map]
      have h1 := List.length_filter_le (kidP op) (xs.map (·.1))
      rw [List.length_map] at h1
      have := hX.ln
      omega
    · rw [hS2' e]; simp
  have k12' : Own O h12 (sb z1 :: star (zs.map sb) :: cell h2.next (.row (nz z1) 43 5 true false) :: cell h4.next (.row (nz z2) 43 5 true false) :: ob 5 (.slice a8 (rdR T ow op).2.length n8) (rdR T ow op).2 :: ob 5 (.slice a6 (rdR T ow op).2.length n6) (rdR T ow op).2 :: txs (.slice a10 S2.length n10) S2 :: txs (.slice a12 S2.length n12) S2 :: cell im (rrow v) :: nzs v zs :: tr it T :: cell h.next O5 :: R) := by
    (refine Own.sbl ?_ (k12); repeat' first | exact Sbl.nil _ | with_reducible exact Sbl.rfl _ | (apply Sbl.cons) | (apply Sbl.skip) | with_reducible exact Fnd.head _ _ | (apply Fnd.tail))
  have d7 := k12'.b2.obj
  have d9 := k12'.b3.obj
  have d9' := (k12'.push (.row (nz z1) 43 5 true false)).b4.obj
  have k13 : Own O ((h12.push (.row (nz z1) 43 5 true false)).push (.row (nz z2) 43 5 true false)) (cell (h12.next + 1) (.row (nz z2) 43 5 true false) :: cell h12.next (.row (nz z1) 43 5 true false) :: sb z1 :: star (zs.map sb) :: cell h2.next (.row (nz z1) 43 5 true false) :: cell h4.next (.row (nz z2) 43 5 true false) :: ob 5 (.slice a8 (rdR T ow op).2.length n8) (rdR T ow op).2 :: ob 5 (.slice a6 (rdR T ow op).2.length n6) (rdR T ow op).2 :: txs (.slice a10 S2.length n10) S2 :: txs (.slice a12 S2.length n12) S2 :: cell im (rrow v) :: nzs v zs :: tr it T :: cell h.next O5 :: R) := (k12'.push _).push _
  have B1 := br_one k13.b1 k13.b2.ob_bytes
  have B2 : BR preN 5 ((h12.push (.row (nz z1) 43 5 true false)).push (.row (nz z2) 43 5 true false)) (.slice (some ⟨h12.next + 1, 0, none⟩) 1 1) [nk z2.1] := by
    refine br_one k13 ?_
    rcases hz2 with ⟨_, b2, _⟩ | ⟨_, b2⟩
    · exact star_bytes b2 k13.b3
    · rw [b2]; exact .inl ⟨rfl, rfl⟩
  rw [hzz] at B1
  have s1 := k13.b7.ob_bytes.str (P := Tryd.prog) (t := 22) (e := 5) (u := 9) Tryd.underlying22 Tryd.underlying5 Tryd.underlying9
  have s2 := k13.b6.ob_bytes.str (P := Tryd.prog) (t := 22) (e := 5) (u := 9) Tryd.underlying22 Tryd.underlying5 Tryd.underlying9
  generalize hrd1 : (rdR T ow op).1 = y1 at *
  generalize hfd1 : findE T ow op = y2 at *
  generalize hls1 : lsE T ow op = y3 at *
  refine awpL_restE (by simp [go_sem]; exact ⟨rfl, rfl⟩) ?_; try dsimp only [thn, inBlk]
  (repeat' first
    | refine AWP.seq ?_
    | refine AWP.block ?_
    | (refine AWP.skip ?_; try dsimp only [thn, inBlk])
    | (refine AWP.exit ?_; try simp only [thn, inBlk, if_true, reduceIte, Nat.reduceEqDiff])
    | (refine AWP.ret ?_; try dsimp only [thn, inBlk])
    | (refine AWP.condT ?_ ?_; (focus (simp [go_sem]; done)))
    | (refine AWP.condF ?_ ?_; (focus (simp [go_sem]; done)))
    | (apply AWP.rE; (focus (simp [go_sem]; exact ⟨rfl, rfl⟩)); try dsimp only [thn, inBlk])
    | fail)
  refine AWP.callE (by simp [go_sem, d7, d9, d9']; exact ⟨rfl, rfl, rfl, rfl, rfl⟩) (by kernel_rfl) ?_
  refine (same_calls B1 B2 (by simp)).mono ?_
  rintro r h14 ⟨rfl, rfl⟩
  refine awpL_toCall (by simp [go_sem, s1, s2]; exact ⟨rfl, rfl, rfl, rfl, rfl⟩) (by kernel_rfl) ?_
  refine (snames_calls (S := S2) k13.b8.os_sl (k13.bring 9 rfl rfl).os_sl hSl).mono ?_
  rintro r h15 ⟨rfl, rfl⟩
  refine awpL_restE (by simp [go_sem]; exact ⟨rfl, rfl⟩) ?_; try dsimp only [thn, inBlk]
  (repeat' first
    | refine AWP.seq ?_
    | refine AWP.block ?_
    | (refine AWP.skip ?_; try dsimp only [thn, inBlk])
    | (refine AWP.exit ?_; try simp only [thn, inBlk, if_true, reduceIte, Nat.reduceEqDiff])
    | (refine AWP.ret ?_; try dsimp only [thn, inBlk])
    | (refine AWP.condT ?_ ?_; (focus (simp [go_sem]; done)))
    | (refine AWP.condF ?_ ?_; (focus (simp [go_sem]; done)))
    | (apply AWP.rE; (focus (simp [go_sem]; exact ⟨rfl, rfl⟩)); try dsimp only [thn, inBlk])
    | fail)
  generalize hdd : (rdR T ow op).2 = dd at *
  generalize hdn : dd.length = dn at *
  have k16 : Own O ((h12.push (.row (nz z1) 43 5 true false)).push (.row (nz z2) 43 5 true false)) (os 5 1 (.slice a6 dn n6) dn (dd.map B) :: sb z1 :: cell h2.next (.row (nz z1) 43 5 true false) :: cell h.next O5 :: tr it T :: cell im (rrow v) :: nzs v zs :: star (zs.map sb) :: R) := by
    have e : (ob 5 (.slice a6 dn n6) dd : Chunk) = os 5 1 (.slice a6 dn n6) dn (dd.map B) := by show os 5 1 _ dd.length _ = _; rw [hdn]
    rw [e] at k13
    (refine Own.sbl ?_ (k13); repeat' first | exact Sbl.nil _ | with_reducible exact Sbl.rfl _ | (apply Sbl.cons) | (apply Sbl.skip) | with_reducible exact Fnd.head _ _ | (apply Fnd.tail))
  have hdl0 : dn ≤ 1000000 := by
    rw [← hdn, ← hdd]
    unfold rdR
    split
    · cases hg : get T op with
      | none => simp
      | some nd =>
        dsimp only
        split
        · simp
        · split
          · simp
          · have := hT.dl _ (mem_of_get hg); dsimp only at this ⊢; omega
    · simp
  have hz1l : z1.1.2.data.length ≤ 1000000 := by
    rcases hz1 with ⟨_, _, a3⟩ | ⟨_, a2⟩
    · have := hT.dl _ (mem_of_get a3); dsimp only at this; omega
    · rw [a2]; simp
  generalize hH : (h12.push (.row (nz z1) 43 5 true false)).push (.row (nz z2) 43 5 true false) = h17 at *
  refine AWP.loopR [5, 7, 19, 11, 109, 110] (fun m s h' => ∃ (j : Nat) (bs : List UInt8), j ≤ dn ∧ m = dn - j ∧ bs.length = dn ∧ s = ⟨138, [(5, ptr h.next), (7, ptr h2.next), (19, .bool true), (11, .slice a6 dn n6), (109, .int .i64 dn), (110, .int .i64 j)]⟩ ∧ Own O h' (os 5 1 (.slice a6 dn n6) dn (bs.map B) :: sb z1 :: cell h2.next (.row (nz z1) 43 5 true false) :: cell h.next O5 :: tr it T :: cell im (rrow v) :: nzs v zs :: star (zs.map sb) :: R)) ?_ ?_
  · exact ⟨_, 0, dd, by omega, rfl, hdn, by simp [go_sem], k16⟩
  rintro m s hA ⟨j, bs, hj, rfl, hbl, rfl, kA⟩
  by_cases hjm : j < dn
  · have hjm' : (j : Int) < dn := by omega
    obtain ⟨b3, o3, c3', ti3, p3, q3, m3, k17⟩ := kA.os_write (P := Tryd.prog) (t := 22) Tryd.underlying22 tsz5 hjm (.int .u8 238) (kd := .i64)
    have m3' : o3 + 1 ≤ c3'.length := m3
    have w1 : IntKind.i64.wrap ((j : Int) + 1) = ((j + 1 : Nat) : Int) := by rw [wI64 (by omega) (by omega)]; omega
    (repeat' first
      | refine AWP.seq ?_
      | refine AWP.block ?_
      | (refine AWP.skip ?_; try dsimp only [thn, inBlk])
      | (refine AWP.exit ?_; try simp only [thn, inBlk, if_true, reduceIte, Nat.reduceEqDiff])
      | (refine AWP.ret ?_; try dsimp only [thn, inBlk])
      | (refine AWP.condT ?_ ?_; (focus (simp [go_sem, hjm', p3, q3, m3', w1]; done)))
      | (refine AWP.condF ?_ ?_; (focus (simp [go_sem, hjm', p3, q3, m3', w1]; done)))
      | (apply AWP.rE; (focus (simp [go_sem, hjm', p3, q3, m3', w1]; exact ⟨rfl, rfl⟩)); try dsimp only [thn, inBlk])
      | fail)
    refine ⟨dn - (j + 1), by omega, j + 1, bs.set j 238, by omega, rfl, by simp [hbl], by simp [go_sem], ?_⟩
    rw [List.map_set]; exact k17
  have hjm' : ¬ (j : Int) < dn := by omega
  have kB0 := kA.tail
  have cB := kB0.b1.obj
  generalize hzn : z1.1.2.data.length = zn at *
  have kB1 : Own O hA (os 5 1 (.slice z1.2.1 zn z1.2.2) zn (z1.1.2.data.map B) :: cell h2.next (.row (nz z1) 43 5 true false) :: cell h.next O5 :: tr it T :: cell im (rrow v) :: nzs v zs :: star (zs.map sb) :: R) := by
    have e : (sb z1 : Chunk) = os 5 1 (.slice z1.2.1 zn z1.2.2) zn (z1.1.2.data.map B) := by show os 5 1 (.slice _ z1.1.2.data.length _) z1.1.2.data.length _ = _; rw [hzn]
    rw [← e]; exact kB0
  (repeat' first
    | refine AWP.seq ?_
    | refine AWP.block ?_
    | (refine AWP.skip ?_; try dsimp only [thn, inBlk])
    | (refine AWP.exit ?_; try simp only [thn, inBlk, if_true, reduceIte, Nat.reduceEqDiff])
    | (refine AWP.ret ?_; try dsimp only [thn, inBlk])
    | (refine AWP.condT ?_ ?_; (focus (simp [go_sem, hjm', cB, hzn]; done)))
    | (refine AWP.condF ?_ ?_; (focus (simp [go_sem, hjm', cB, hzn]; done)))
    | (apply AWP.rE; (focus (simp [go_sem, hjm', cB, hzn]; exact ⟨rfl, rfl⟩)); try dsimp only [thn, inBlk])
    | fail)
  refine AWP.loopR [5, 7, 19, 119, 120] (fun m s h' => ∃ (j : Nat) (bs : List UInt8), j ≤ zn ∧ m = zn - j ∧ bs.length = zn ∧ s = ⟨138, [(5, ptr h.next), (7, ptr h2.next), (19, .bool true), (119, .int .i64 zn), (120, .int .i64 j)]⟩ ∧ Own O h' (os 5 1 (.slice z1.2.1 zn z1.2.2) zn (bs.map B) :: cell h2.next (.row (nz z1) 43 5 true false) :: cell h.next O5 :: tr it T :: cell im (rrow v) :: nzs v zs :: star (zs.map sb) :: R)) ?_ ?_
  · exact ⟨_, 0, z1.1.2.data, by omega, rfl, hzn, by simp [go_sem], kB1⟩
  rintro m s hA2 ⟨j2, bs2, hj2, rfl, hbl2, rfl, kA2⟩
  have cA2 := kA2.b1.obj
  by_cases hjm2 : j2 < zn
  · have hjm2' : (j2 : Int) < zn := by omega
    obtain ⟨b3, o3, c3', ti3, p3, q3, m3, k17⟩ := kA2.os_write (P := Tryd.prog) (t := 22) Tryd.underlying22 tsz5 hjm2 (.int .u8 238) (kd := .i64)
    have m3' : o3 + 1 ≤ c3'.length := m3
    have w1 : IntKind.i64.wrap ((j2 : Int) + 1) = ((j2 + 1 : Nat) : Int) := by rw [wI64 (by omega) (by omega)]; omega
    (repeat' first
      | refine AWP.seq ?_
      | refine AWP.block ?_
      | (refine AWP.skip ?_; try dsimp only [thn, inBlk])
      | (refine AWP.exit ?_; try simp only [thn, inBlk, if_true, reduceIte, Nat.reduceEqDiff])
      | (refine AWP.ret ?_; try dsimp only [thn, inBlk])
      | (refine AWP.condT ?_ ?_; (focus (simp [go_sem, hjm2', cA2, hzn, p3, q3, m3', w1]; done)))
      | (refine AWP.condF ?_ ?_; (focus (simp [go_sem, hjm2', cA2, hzn, p3, q3, m3', w1]; done)))
      | (apply AWP.rE; (focus (simp [go_sem, hjm2', cA2, hzn, p3, q3, m3', w1]; exact ⟨rfl, rfl⟩)); try dsimp only [thn, inBlk])
      | fail)
    refine ⟨zn - (j2 + 1), by omega, j2 + 1, bs2.set j2 238, by omega, rfl, by simp [hbl2], by simp [go_sem], ?_⟩
    rw [List.map_set]; exact k17
  have hjm2' : ¬ (j2 : Int) < zn := by omega
  have cO := kA2.b2.obj
  rw [← hO5] at cO
  have kC : Own O hA2 (cell h.next O5 :: tr it T :: cell im (rrow v) :: nzs v zs :: star (zs.map sb) :: R) := kA2.tail.tail
  (repeat' first
    | refine AWP.seq ?_
    | refine AWP.block ?_
    | (refine AWP.skip ?_; try dsimp only [thn, inBlk])
    | (refine AWP.exit ?_; try simp only [thn, inBlk, if_true, reduceIte, Nat.reduceEqDiff])
    | (refine AWP.ret ?_; try dsimp only [thn, inBlk])
    | (refine AWP.condT ?_ ?_; (focus (simp [go_sem, hjm2']; done)))
    | (refine AWP.condF ?_ ?_; (focus (simp [go_sem, hjm2']; done)))
    | (apply AWP.rE; (focus (simp [go_sem, hjm2']; exact ⟨rfl, rfl⟩)); try dsimp only [thn, inBlk])
    | fail)
  refine AWP.draw hmix [.n 0 [19], .n 1 [128], .n 2 [5, 129], .n 3 [130, 129], .n 5 [5, 129], .n 6 [133, 129], .w 4 [131, 129] [6], .w 7 [134, 129] [], .n 8 [132, 135, 129], .n 9 [129, 136], .n 10 [137]] (by kernel_rfl) ?_
  refine awpD_callR 6 (by rfl) (by rfl) (by simp [go_sem, cO]; exact ⟨rfl, rfl, rfl⟩) (by rfl) (by rfl) (by simp [go_sem]) (by simp [go_sem, cO]; exact ⟨rfl, rfl⟩) (by kernel_rfl) ?_
  refine (path_calls kC (l := op) (by omega)).mono ?_
  rintro r h20 ⟨rfl, k20⟩
  have c20 := k20.obj
  rw [← hO5] at c20
  refine ⟨by simp [still, go_sem, cO, c20], ?_⟩
  refine awpD_callR 0 (by rfl) (by rfl) (by simp [go_sem, c20]; exact ⟨rfl, rfl, rfl⟩) (by rfl) (by rfl) (by simp [go_sem]) (by simp [go_sem, c20]; exact ⟨rfl, rfl⟩) (by kernel_rfl) ?_
  refine (rpath_calls (l := op) k20 (by omega)).mono ?_
  rintro r h21 ⟨rfl, k21⟩
  have c21 := k21.obj
  rw [← hO5] at c21
  refine ⟨by simp [still, go_sem, c20, c21], ?_⟩
  refine awpD_restR (by rfl) (by simp [go_sem]; exact ⟨rfl, rfl, rfl⟩) ?_; try dsimp only [thn, inBlk]
  (repeat' first
    | refine AWP.seq ?_
    | refine AWP.block ?_
    | (refine AWP.skip ?_; try dsimp only [thn, inBlk])
    | (refine AWP.exit ?_; try simp only [thn, inBlk, if_true, reduceIte, Nat.reduceEqDiff])
    | (refine AWP.ret ?_; try dsimp only [thn, inBlk])
    | (refine AWP.condT ?_ ?_; (focus (simp [go_sem]; done)))
    | (refine AWP.condF ?_ ?_; (focus (simp [go_sem]; done)))
    | (apply AWP.rE; (focus (simp [go_sem]; exact ⟨rfl, rfl⟩)); try dsimp only [thn, inBlk])
    | fail)
  simp [bodyQ, thn, inBlk, resA, resV, go_sem]
  exact k21.tail
end
end L19
