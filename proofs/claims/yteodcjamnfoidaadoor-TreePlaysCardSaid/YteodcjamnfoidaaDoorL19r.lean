import Derived.Test.YteodcjamnfoidaaDoorL19q
import Derived.Test.YteodcjamnfoidaaDoorAbLibE
import Derived.Test.YteodcjamnfoidaaDoorL19n
open Go Ab Go.Proofs
namespace L19
set_option autoImplicit false
set_option linter.unusedSimpArgs false
set_option linter.unusedVariables false
abbrev srt (l : List (List UInt8)) : List (List UInt8) := l.mergeSort Go.leB
theorem sort_calls {O : Old} {h : AHeap} {R : List Chunk} {v : Value} {ls : List (List UInt8)} (k : Own O h (txs v ls :: R)) (hl : ls.length ≤ 1000000) :
    ACalls Tryd.prog 59 #[v] h fun r h' => r = .tuple #[] ∧ Own O h' (txs v (srt ls) :: R) :=
  sortBack (ord := srt) (fun l => List.length_mergeSort _) (fun blk off cap ss w hH hblk hsz => AnyM.slices_Sort_string Lk.sortA blk off cap ss w hH hblk hsz) (fun p cap w => AnyM.slices_Sort_string_none Lk.sortA p cap w) k hl

/-! ### The names in a directory -/
/-- A path's last name. -/
def base (p : List UInt8) : List UInt8 := p.drop (lastN p 47 p.length)
def kidP (q : List UInt8) (p : List UInt8) : Bool := !(p == [47]) && par p == q
def kids (T : TL) (q : List UInt8) : List (List UInt8) := ((T.map (·.1)).filter (kidP q)).map base

theorem nodup_of_map {α β : Type} {f : α → β} : ∀ {l : List α}, (l.map f).Nodup → l.Nodup
  | [], _ => List.nodup_nil
  | x :: l, h => by
    rw [List.map_cons, List.nodup_cons] at h
    exact List.nodup_cons.2 ⟨fun hx => h.1 (List.mem_map_of_mem hx), nodup_of_map h.2⟩
theorem lessZ {α : Type} {zs : List (α × Nat)} {seen : Array Nat} {z : α × Nat} (hz : z ∈ zs) (hn : z.2 ∉ seen) :
    (zs.filter fun y => !decide (y.2 ∈ seen.push z.2)).length < (zs.filter fun y => !decide (y.2 ∈ seen)).length := by
  have : (zs.filter fun y => !decide (y.2 ∈ seen.push z.2)) = (zs.filter fun y => !decide (y.2 ∈ seen)).filter fun y => !decide (y.2 = z.2) := by
    rw [List.filter_filter]
    apply List.filter_congr
    intro y hy
    simp; rw [Bool.and_comm]
  rw [this]
  rw [List.length_filter_lt_length_iff_exists]
  exact ⟨z, by simp [hz, hn], by simp⟩
theorem vis_perm {α : Type} {U zs : List (α × Nat)} (h1 : ∀ z ∈ U, z ∈ zs) (h2 : U.Nodup) (h3 : (zs.map (·.2)).Nodup) (h4 : ∀ z ∈ zs, ∃ y ∈ U, y.2 = z.2) : U.Perm zs := by
  have hz : zs.Nodup := by
    exact nodup_of_map h3
  refine (List.perm_ext_iff_of_nodup h2 hz).2 fun a => ⟨h1 a, fun ha => ?_⟩
  obtain ⟨y, hy, e⟩ := h4 a ha
  have := inj_of_nodup (f := fun z : α × Nat => z.2) h3 (h1 y hy) ha e
  rw [← this]; exact hy
section
variable {O : Old} {h : AHeap} {R : List Chunk} {i m : Nat} {T : TL} {ws : List Wd}
set_option maxHeartbeats 8000000 in
theorem names_calls {q : List UInt8} (hI : TI T) (hw : ws.length = T.length) (k : Own O h (tro i m T ws ++ R)) (hT : T.length ≤ 1000) :
    ACalls Tryd.prog 36 #[ptr i, tx q] h fun r h' => ∃ a cap, r = .slice a (kids T q).length cap ∧ Own O h' (txs (.slice a (kids T q).length cap) (srt (kids T q)) :: (tro i m T ws ++ R)) := by
  refine ACalls.of_awp (args := [ptr i, tx q]) (n := 34) Tryd.func36 rfl rfl (by show 2 ≤ 34; omega) ?_
  have ci : h.obj i = some (trow m) := k.obj
  obtain ⟨zs, clock, hz1, hz2, hz3, k1⟩ := mpc_mpz.1 ((show Own O h (cell i (trow m) :: mch m T ws :: (nsubs T ws ++ R)) from k).b1)
  have hzk : zs.map (·.1.1) = T.map (·.1) := by
    have := congrArg (List.map Prod.fst) hz1
    rw [List.map_map] at this
    rw [← ptrs_keys hw, ← this]; rfl
  have hzl : ∀ z ∈ zs, z.1.1.length ≤ 1000000 := fun z hz => by
    have : z.1.1 ∈ T.map (·.1) := by rw [← hzk]; exact List.mem_map_of_mem hz
    obtain ⟨x, hx, e⟩ := List.mem_map.1 this
    rw [← e]; exact hI.pl x hx
  have hzn : zs.length = T.length := by have := congrArg List.length hzk; simpa using this
  have e1 := k1.rangeW (P := Tryd.prog) (t := 60) Tryd.underlying60
  have k2 : Own O (h.push (.other (.mapIter (some m) clock #[] clock))) (cell h.next (.other (.mapIter (some m) clock #[] clock)) :: mpz tx ptr m zs clock :: os 9 1 (.slice none 0 0) 0 [] :: cell i (trow m) :: (nsubs T ws ++ R)) := ((k1.push _).nil 9 1).p2
  (repeat' first
    | refine AWP.seq ?_
    | refine AWP.block ?_
    | (refine AWP.skip ?_; try dsimp only [thn, inBlk])
    | (refine AWP.exit ?_; try simp only [thn, inBlk, if_true, reduceIte, Nat.reduceEqDiff])
    | (refine AWP.ret ?_; try dsimp only [thn, inBlk])
    | (refine AWP.condT ?_ ?_; (focus (simp [go_sem, ci, e1]; done)))
    | (refine AWP.condF ?_ ?_; (focus (simp [go_sem, ci, e1]; done)))
    | (apply AWP.rE; (focus (simp [go_sem, ci, e1]; exact ⟨rfl, rfl⟩)); try dsimp only [thn, inBlk])
    | fail)
  refine AWP.loopR [1, 4, 10] (fun n s h' => ∃ (seen : Array Nat) (U : List ((List UInt8 × Nat) × Nat)) (ns : List (List UInt8)) (a : Option Addr) (cap : Nat), n = (zs.filter fun y => !decide (y.2 ∈ seen)).length ∧ s = ⟨34, [(1, tx q), (4, .slice a ns.length cap), (10, ptr h.next)]⟩ ∧
    (∀ z ∈ U, z ∈ zs) ∧ U.Nodup ∧ (∀ y, y ∈ seen ↔ ∃ z ∈ U, z.2 = y) ∧ ns = ((U.map (·.1.1)).filter (kidP q)).map base ∧ U.length ≤ zs.length ∧
    Own O h' (cell h.next (.other (.mapIter (some m) clock seen clock)) :: mpz tx ptr m zs clock :: txs (.slice a ns.length cap) ns :: cell i (trow m) :: (nsubs T ws ++ R))) ?_ ?_
  · exact ⟨_, #[], [], [], none, 0, rfl, by simp [go_sem], by simp, List.nodup_nil, by simp, rfl, by simp, k2⟩
  rintro n s h' ⟨seen, U, ns, a, cap, rfl, rfl, hU1, hU2, hU3, hns, hUl, kt⟩
  have hnl : ns.length ≤ 1000 := by
    rw [hns, List.length_map]
    have := List.length_filter_le (kidP q) (U.map (·.1.1))
    rw [List.length_map] at this; omega
  refine AWP.seq ?_
  refine AWP.nextE rfl rfl rfl rfl (by simp [go_sem]; rfl) ?_
  refine kt.nextA (fun _ => rfl) (fun z hz => hz3 z hz) (Nat.le_refl _) ?_ ?_
  · intro hall
    have hperm : U.Perm zs := vis_perm hU1 hU2 hz2 (fun z hz => (hU3 z.2).1 (hall z hz))
    have hkp : ns.Perm (kids T q) := by
      rw [hns, kids, ← hzk]
      exact (((hperm.map _).filter _).map _)
    have hkl : ns.length = (kids T q).length := hkp.length_eq
    have hsr : srt ns = srt (kids T q) := Go.mergeSort_of_perm hkp
    refine awpL_restE (by simp [go_sem]; exact ⟨rfl, rfl⟩) ?_; try dsimp only [thn, inBlk]
    (repeat' first
      | refine AWP.seq ?_
      | refine AWP.block ?_
      | (refine AWP.skip ?_; try dsimp only [thn, inBlk])
      | (refine AWP.exit ?_; try simp only [thn, inBlk, if_true, reduceIte, Nat.reduceEqDiff])
      | (refine AWP.ret ?_; try dsimp only [thn, inBlk])
      | (refine AWP.condT ?_ ?_; (focus (simp [go_sem]; done)))
      | (refine AWP.condF ?_ ?_; (focus (simp [go_sem]; done)))
      | (apply AWP.rE; (focus (simp [go_sem]; exact ⟨rfl, rfl⟩)); try dsimp only [thn, inBlk])
      | fail)
    refine AWP.callE (by simp [go_sem]; exact ⟨rfl, rfl, rfl, rfl, rfl⟩) (by kernel_rfl) ?_
    refine (sort_calls kt.b2 (by omega)).mono ?_
    rintro r h3 ⟨rfl, k3⟩
    rw [hsr] at k3
    refine awpL_restE (by simp [go_sem]; exact ⟨rfl, rfl⟩) ?_; try dsimp only [thn, inBlk]
    (repeat' first
      | refine AWP.seq ?_
      | refine AWP.block ?_
      | (refine AWP.skip ?_; try dsimp only [thn, inBlk])
      | (refine AWP.exit ?_; try simp only [thn, inBlk, if_true, reduceIte, Nat.reduceEqDiff])
      | (refine AWP.ret ?_; try dsimp only [thn, inBlk])
      | (refine AWP.condT ?_ ?_; (focus (simp [go_sem]; done)))
      | (refine AWP.condF ?_ ?_; (focus (simp [go_sem]; done)))
      | (apply AWP.rE; (focus (simp [go_sem]; exact ⟨rfl, rfl⟩)); try dsimp only [thn, inBlk])
      | fail)
    simp [bodyQ, thn, inBlk, resA, resV, go_sem]
    have ksl : (srt (kids T q)).length = (kids T q).length := List.length_mergeSort _
    refine ⟨a, cap, ⟨rfl, hkl, rfl⟩, ?_⟩
    rw [← hkl]
    exact (show Own O h3 (mch m T ws :: txs (.slice a ns.length cap) (srt (kids T q)) :: cell i (trow m) :: (nsubs T ws ++ R)) from mpc_mpz.2 ⟨zs, clock, hz1, hz2, hz3, (k3.d1).b1⟩).b2.b2
  · intro z hz hns2
    have k3 := kt.set (.other (.mapIter (some m) clock (seen.push z.2) clock))
    have e4 := k3.entryR (fun _ => rfl) hz2 hz
    have hzU : z ∉ U := fun h => hns2 ((hU3 z.2).2 ⟨z, h, rfl⟩)
    have hpl := hzl z hz
    have hless := lessZ hz hns2
    have i1 : ∀ y ∈ U ++ [z], y ∈ zs := fun y hy => by
      rcases List.mem_append.1 hy with hy | hy
      · exact hU1 y hy
      · rw [List.mem_singleton.1 hy]; exact hz
    have i2 : (U ++ [z]).Nodup := by
      rw [List.nodup_append]
      exact ⟨hU2, by simp, fun a ha b hb e => by rw [List.mem_singleton.1 hb] at e; rw [e] at ha; exact hzU ha⟩
    have i3 : ∀ y, y ∈ seen.push z.2 ↔ ∃ x ∈ U ++ [z], x.2 = y := fun y => by
      rw [Array.mem_push, hU3]
      constructor
      · rintro (⟨x, hx, e⟩ | e)
        · exact ⟨x, List.mem_append_left _ hx, e⟩
        · exact ⟨z, by simp, e.symm⟩
      · rintro ⟨x, hx, e⟩
        rcases List.mem_append.1 hx with hx | hx
        · exact .inl ⟨x, hx, e⟩
        · rw [List.mem_singleton.1 hx] at e; exact .inr e.symm
    have i4 : (U ++ [z]).length ≤ zs.length := by
      have hzn2 : zs.Nodup := nodup_of_map hz2
      exact List.Nodup.length_le_of_subset i2 i1
    have i5 : (((U ++ [z]).map (·.1.1)).filter (kidP q)).map base = if kidP q z.1.1 = true then ns ++ [base z.1.1] else ns := by
      rw [List.map_append, List.filter_append, List.map_append, ← hns]
      by_cases hk : kidP q z.1.1 = true
      · rw [if_pos hk]; simp [hk]
      · rw [if_neg hk]; simp [hk]
    generalize hH : h'.set h.next (.other (.mapIter (some m) clock (seen.push z.2) clock)) = h3 at *
    obtain ⟨⟨p, pw⟩, st⟩ := z
    dsimp only at e4 hpl i5 hless i3 k3
    by_cases hp1 : p = [47]
    · have hp1' : (p == [47]) = true := by simpa using hp1
      have hk : ¬ kidP q p = true := by simp [kidP, hp1]
      rw [if_neg hk] at i5
      refine awpL_restE (by simp [go_sem]; exact ⟨rfl, rfl⟩) ?_; try dsimp only [thn, inBlk]
      (repeat' first
        | refine AWP.seq ?_
        | refine AWP.block ?_
        | (refine AWP.skip ?_; try dsimp only [thn, inBlk])
        | (refine AWP.exit ?_; try simp only [thn, inBlk, if_true, reduceIte, Nat.reduceEqDiff])
        | (refine AWP.ret ?_; try dsimp only [thn, inBlk])
        | (refine AWP.condT ?_ ?_; (focus (simp [go_sem, e4, hp1']; done)))
        | (refine AWP.condF ?_ ?_; (focus (simp [go_sem, e4, hp1']; done)))
        | (apply AWP.rE; (focus (simp [go_sem, e4, hp1']; exact ⟨rfl, rfl⟩)); try dsimp only [thn, inBlk])
        | fail)
      exact ⟨_, hless, seen.push st, U ++ [((p, pw), st)], ns, a, cap, rfl, by simp [go_sem], i1, i2, i3, i5.symm, i4, k3⟩
    have hp1' : (p == [47]) = false := by simpa using hp1
    refine awpL_restE (by simp [go_sem]; exact ⟨rfl, rfl⟩) ?_; try dsimp only [thn, inBlk]
    (repeat' first
      | refine AWP.seq ?_
      | refine AWP.block ?_
      | (refine AWP.skip ?_; try dsimp only [thn, inBlk])
      | (refine AWP.exit ?_; try simp only [thn, inBlk, if_true, reduceIte, Nat.reduceEqDiff])
      | (refine AWP.ret ?_; try dsimp only [thn, inBlk])
      | (refine AWP.condT ?_ ?_; (focus (simp [go_sem, e4, hp1']; done)))
      | (refine AWP.condF ?_ ?_; (focus (simp [go_sem, e4, hp1']; done)))
      | (apply AWP.rE; (focus (simp [go_sem, e4, hp1']; exact ⟨rfl, rfl⟩)); try dsimp only [thn, inBlk])
      | fail)
    refine AWP.callE (by simp [go_sem, e4, hp1']; exact ⟨rfl, rfl, rfl, rfl, rfl⟩) (by kernel_rfl) ?_
    refine (parent_calls (l := p) hpl).mono ?_
    rintro r h4 ⟨rfl, rfl⟩
    by_cases hq : par p = q
    rotate_left
    · have hq' : (par p == q) = false := by simpa using hq
      have hk : ¬ kidP q p = true := by simp [kidP, hq]
      rw [if_neg hk] at i5
      refine awpL_restE (by simp [go_sem]; exact ⟨rfl, rfl⟩) ?_; try dsimp only [thn, inBlk]
      (repeat' first
        | refine AWP.seq ?_
        | refine AWP.block ?_
        | (refine AWP.skip ?_; try dsimp only [thn, inBlk])
        | (refine AWP.exit ?_; try simp only [thn, inBlk, if_true, reduceIte, Nat.reduceEqDiff])
        | (refine AWP.ret ?_; try dsimp only [thn, inBlk])
        | (refine AWP.condT ?_ ?_; (focus (simp [go_sem, hq']; done)))
        | (refine AWP.condF ?_ ?_; (focus (simp [go_sem, hq']; done)))
        | (apply AWP.rE; (focus (simp [go_sem, hq']; exact ⟨rfl, rfl⟩)); try dsimp only [thn, inBlk])
        | fail)
      exact ⟨_, hless, seen.push st, U ++ [((p, pw), st)], ns, a, cap, rfl, by simp [go_sem], i1, i2, i3, i5.symm, i4, k3⟩
    have hq' : (par p == q) = true := by simpa using hq
    have hk : kidP q p = true := by simp [kidP, hq, hp1]
    rw [if_pos hk] at i5
    refine awpL_restE (by simp [go_sem]; exact ⟨rfl, rfl⟩) ?_; try dsimp only [thn, inBlk]
    (repeat' first
      | refine AWP.seq ?_
      | refine AWP.block ?_
      | (refine AWP.skip ?_; try dsimp only [thn, inBlk])
      | (refine AWP.exit ?_; try simp only [thn, inBlk, if_true, reduceIte, Nat.reduceEqDiff])
      | (refine AWP.ret ?_; try dsimp only [thn, inBlk])
      | (refine AWP.condT ?_ ?_; (focus (simp [go_sem, hq']; done)))
      | (refine AWP.condF ?_ ?_; (focus (simp [go_sem, hq']; done)))
      | (apply AWP.rE; (focus (simp [go_sem, hq']; exact ⟨rfl, rfl⟩)); try dsimp only [thn, inBlk])
      | fail)
    refine AWP.callE (by simp [go_sem]; exact ⟨rfl, rfl, rfl, rfl, rfl⟩) (by kernel_rfl) ?_
    refine (lastb_calls (l := p) (c := 47) hpl).mono ?_
    rintro r h5 ⟨rfl, rfl⟩
    have hL := lastN_le p 47 p.length
    obtain ⟨L, hLe⟩ : ∃ L, L = lastN p 47 p.length := ⟨_, rfl⟩
    obtain ⟨zz, hzz⟩ : ∃ zz : Int, zz = (L : Int) - 1 := ⟨_, rfl⟩
    rw [← hLe] at hL ⊢
    rw [← hzz]
    have w1 : IntKind.i64.wrap (zz + 1) = (L : Int) := by rw [wI64 (by omega) (by omega)]; omega
    have s1 : ∀ hh, sliceR Tryd.prog hh 9 (tx p) (some (.int .i64 (L : Int))) none none = some (tx (base p)) := fun hh => by
      have := str_slice (P := Tryd.prog) (h := hh) Tryd.underlying9 (l := p) (lo := L) (hi := p.length) (a := some (.int .i64 (L : Int))) (u := none) (by omega) (Nat.le_refl _) (.inr ⟨.i64, rfl⟩) (.inl ⟨rfl, rfl⟩)
      rw [List.take_length] at this
      rw [base, ← hLe]; exact this
    obtain ⟨a6, c6, h6, e6, k6⟩ := Own.app1 (P := Tryd.prog) (t := 69) (xt := 69) (x := tx (base p)) Tryd.underlying69 tsz9 tby9 tz9 nI69 (by omega) rfl k3.b2 rfl rfl (by omega)
    refine awpL_restE (by simp [go_sem, w1, s1, e6]; exact ⟨rfl, rfl⟩) ?_; try dsimp only [thn, inBlk]
    (repeat' first
      | refine AWP.seq ?_
      | refine AWP.block ?_
      | (refine AWP.skip ?_; try dsimp only [thn, inBlk])
      | (refine AWP.exit ?_; try simp only [thn, inBlk, if_true, reduceIte, Nat.reduceEqDiff])
      | (refine AWP.ret ?_; try dsimp only [thn, inBlk])
      | (refine AWP.condT ?_ ?_; (focus (simp [go_sem]; done)))
      | (refine AWP.condF ?_ ?_; (focus (simp [go_sem]; done)))
      | (apply AWP.rE; (focus (simp [go_sem]; exact ⟨rfl, rfl⟩)); try dsimp only [thn, inBlk])
      | fail)
    refine ⟨_, hless, seen.push st, U ++ [((p, pw), st)], ns ++ [base p], a6, c6, rfl, by simp [go_sem], i1, i2, i3, i5.symm, i4, ?_⟩
    have e7 : (ns ++ [base p]).length = ns.length + 1 := by simp
    rw [txs, e7, List.map_append]
    exact k6.p2
end
end L19
