import Derived.Test.YteodcjamnfoidaaDoorL19v
open Go Ab Go.Proofs
namespace L19
set_option autoImplicit false
set_option linter.unusedSimpArgs false
set_option linter.unusedVariables false

def xB : List UInt8 := [47, 120]
def yB : List UInt8 := [47, 121]
theorem x_flat : Flat xB := ⟨by decide +kernel, by decide, fun j hj => by
  match j, hj with
  | 1, _ => decide
  | j + 2, _ => simp [xB]⟩
theorem y_flat : Flat yB := ⟨by decide +kernel, by decide, fun j hj => by
  match j, hj with
  | 1, _ => decide
  | j + 2, _ => simp [yB]⟩
theorem faa : fp 0 = [47, 102, 97, 97] := by decide
/-- The tree behind the removal. -/
def TR : TL := top :: ((List.range 63).map fn).tail
set_option maxRecDepth 100000 in
theorem rm_full : rmR (TF 63) rootB (fp 0) = (0, TR) := by kernel_rfl
set_option maxRecDepth 100000 in
theorem TR_x : get TR xB = none := by kernel_rfl
set_option maxRecDepth 100000 in
theorem TR_y : get (TR ++ [(xB, ⟨true, rootB, 61, []⟩)]) yB = none := by kernel_rfl
set_option maxRecDepth 100000 in
theorem TF_x : get (TF 63) xB = none := by kernel_rfl
theorem TR_len : TR.length = 63 := by simp [TR]
theorem TR_top : get TR [47] = some top.2 := rfl
theorem TR_sub : ∀ x ∈ TR, x ∈ TF 63 := fun x hx => by
  have hs : TR.Sublist (TF 63) := List.Sublist.cons_cons _ (List.tail_sublist _)
  exact hs.subset hx
theorem TR_tk : TK TR := by
  have h := TF_tk 63 (by omega)
  refine ⟨⟨?_, fun x hx => h.pl x (TR_sub x hx), fun x hx => h.ol x (TR_sub x hx), fun x hx => h.md x (TR_sub x hx), fun x hx => h.dl x (TR_sub x hx)⟩, ⟨_, TR_top⟩, by rw [TR_len]; omega⟩
  have hs : TR.Sublist (TF 63) := List.Sublist.cons_cons _ (List.tail_sublist _)
  exact (hs.map _).nodup h.nd
theorem mk_full : mkR (TF 63) rootB xB 61 = (2, TF 63) := by
  rw [mk_flat x_flat (TF_top 63) TF_x rfl, TF_len, if_pos (by omega)]
theorem mk_room : mkR TR rootB xB 61 = (0, TR ++ [(xB, ⟨true, rootB, 61, []⟩)]) := by
  rw [mk_flat x_flat TR_top TR_x rfl, TR_len, if_neg (by omega)]; rfl
theorem wr_room : wrR TR rootB xB [] 0 = (0, TR ++ [(xB, ⟨false, rootB, 0, []⟩)]) := by
  rw [wr_flat x_flat TR_top TR_x rfl (by simp), TR_len, if_neg (by omega)]; rfl
theorem wr_full2 : wrR (TR ++ [(xB, ⟨true, rootB, 61, []⟩)]) rootB yB [] 0 = (2, TR ++ [(xB, ⟨true, rootB, 61, []⟩)]) := by
  rw [wr_flat y_flat (get_app TR_top) TR_y rfl (by simp)]
  rw [if_pos (by simp [TR_len])]

set_option maxHeartbeats 8000000 in
theorem full_calls {h : AHeap} {z : Int} {dir : Bool} : ACalls Tryd.prog 6 #[.int .i64 z, .bool dir] h fun r _ => r = .bool true := by
  refine Own.of_wf fun k0 => ?_
  refine ACalls.of_awp (args := [.int .i64 z, .bool dir]) (n := 74) Tryd.func6 rfl rfl (by show 2 ≤ 74; omega) ?_
  (repeat' first
    | refine AWP.seq ?_
    | refine AWP.block ?_
    | (refine AWP.skip ?_; try dsimp only [thn, inBlk])
    | (refine AWP.exit ?_; try simp only [thn, inBlk, if_true, reduceIte, Nat.reduceEqDiff])
    | (refine AWP.ret ?_; try dsimp only [thn, inBlk])
    | (refine AWP.condT ?_ ?_; (focus (simp [go_sem]; done)))
    | (refine AWP.condF ?_ ?_; (focus (simp [go_sem]; done)))
    | (apply AWP.rE; (focus (simp [go_sem]; exact ⟨rfl, rfl⟩)); try dsimp only [thn, inBlk])
    | fail)
  refine AWP.callE (by simp [go_sem]; exact ⟨rfl, rfl, rfl, rfl, rfl⟩) (by kernel_rfl) ?_
  refine (speaks_calls k0).mono ?_
  rintro r h1 ⟨rfl, k1⟩
  refine awpL_restE (by simp [go_sem]; exact ⟨rfl, rfl⟩) ?_; try dsimp only [thn, inBlk]
  (repeat' first
    | refine AWP.seq ?_
    | refine AWP.block ?_
    | (refine AWP.skip ?_; try dsimp only [thn, inBlk])
    | (refine AWP.exit ?_; try simp only [thn, inBlk, if_true, reduceIte, Nat.reduceEqDiff])
    | (refine AWP.ret ?_; try dsimp only [thn, inBlk])
    | (refine AWP.condT ?_ ?_; (focus (simp [go_sem]; done)))
    | (refine AWP.condF ?_ ?_; (focus (simp [go_sem]; done)))
    | (apply AWP.rE; (focus (simp [go_sem]; exact ⟨rfl, rfl⟩)); try dsimp only [thn, inBlk])
    | fail)
  refine AWP.callE (by simp [go_sem]; exact ⟨rfl, rfl, rfl, rfl, rfl⟩) (by kernel_rfl) ?_
  refine (new_calls k1).mono ?_
  rintro r h2 ⟨i, rfl, k2⟩
  obtain ⟨M, hM, wz⟩ := and_mask z 7 (by omega)
  obtain ⟨N, hN⟩ : ∃ N, N = 63 + M := ⟨_, rfl⟩
  have wN : IntKind.i64.wrap (63 + (M : Int)) = (N : Int) := by rw [wI64 (by omega) (by omega)]; omega
  refine awpL_restE (by simp [go_sem]; exact ⟨rfl, rfl⟩) ?_; try dsimp only [thn, inBlk]
  (repeat' first
    | refine AWP.seq ?_
    | refine AWP.block ?_
    | (refine AWP.skip ?_; try dsimp only [thn, inBlk])
    | (refine AWP.exit ?_; try simp only [thn, inBlk, if_true, reduceIte, Nat.reduceEqDiff])
    | (refine AWP.ret ?_; try dsimp only [thn, inBlk])
    | (refine AWP.condT ?_ ?_; (focus (simp [go_sem]; done)))
    | (refine AWP.condF ?_ ?_; (focus (simp [go_sem]; done)))
    | (apply AWP.rE; (focus (simp [go_sem]; exact ⟨rfl, rfl⟩)); try dsimp only [thn, inBlk])
    | fail)
  refine AWP.loopR [0, 1, 5, 6] (fun m s h' => ∃ j : Nat, j ≤ N ∧ m = N - j ∧ s = ⟨74, [(0, .int .i64 z), (1, .bool dir), (5, ptr i), (6, .int .i64 j)]⟩ ∧ Own h.asOld h' [tr i (TF (min j 63))]) ?_ ?_
  · exact ⟨_, 0, by omega, rfl, rfl, k2⟩
  rintro m s hB ⟨j, hj, rfl, rfl, kB⟩
  by_cases hjm : j < N
  rotate_left
  · have hjm' : ¬ (j : Int) < N := by omega
    rw [show min j 63 = 63 by omega] at kB
    (repeat' first
      | refine AWP.seq ?_
      | refine AWP.block ?_
      | (refine AWP.skip ?_; try dsimp only [thn, inBlk])
      | (refine AWP.exit ?_; try simp only [thn, inBlk, if_true, reduceIte, Nat.reduceEqDiff])
      | (refine AWP.ret ?_; try dsimp only [thn, inBlk])
      | (refine AWP.condT ?_ ?_; (focus (simp [go_sem, wz, wN, hjm']; done)))
      | (refine AWP.condF ?_ ?_; (focus (simp [go_sem, wz, wN, hjm']; done)))
      | (apply AWP.rE; (focus (simp [go_sem, wz, wN, hjm']; exact ⟨rfl, rfl⟩)); try dsimp only [thn, inBlk])
      | fail)
    refine AWP.callE (by simp [go_sem]; exact ⟨rfl, rfl, rfl, rfl, rfl⟩) (by kernel_rfl) ?_
    refine (mkdir_calls (who := rootB) (p := xB) (z := 61) (TF_tk 63 (by omega)) kB (by decide)).mono ?_
    rintro r h3 ⟨rfl, k3⟩
    rw [mk_full] at k3 ⊢
    refine awpL_toCall (by simp [go_sem]; exact ⟨rfl, rfl, rfl, rfl, rfl⟩) (by kernel_rfl) ?_
    refine (remove_calls (who := rootB) (p := fp 0) (TF_tk 63 (by omega)) k3 (by decide)).mono ?_
    rintro r h4 ⟨rfl, k4⟩
    rw [rm_full] at k4 ⊢
    cases dir
    · refine awpL_restE (by simp [go_sem]; exact ⟨rfl, rfl⟩) ?_; try dsimp only [thn, inBlk]
      (repeat' first
        | refine AWP.seq ?_
        | refine AWP.block ?_
        | (refine AWP.skip ?_; try dsimp only [thn, inBlk])
        | (refine AWP.exit ?_; try simp only [thn, inBlk, if_true, reduceIte, Nat.reduceEqDiff])
        | (refine AWP.ret ?_; try dsimp only [thn, inBlk])
        | (refine AWP.condT ?_ ?_; (focus (simp [go_sem]; done)))
        | (refine AWP.condF ?_ ?_; (focus (simp [go_sem]; done)))
        | (apply AWP.rE; (focus (simp [go_sem]; exact ⟨rfl, rfl⟩)); try dsimp only [thn, inBlk])
        | fail)
      refine AWP.callE (by simp [go_sem]; exact ⟨rfl, rfl, rfl, rfl, rfl⟩) (by kernel_rfl) ?_
      refine (write_calls (who := rootB) (p := xB) (d := []) (z := 0) TR_tk k4 (fun hh kk => Bytes.nil hh) (by decide) (by simp)).mono ?_
      rintro r h5 ⟨rfl, k5⟩
      rw [wr_room] at k5 ⊢
      refine awpL_toCall (by simp [go_sem]; exact ⟨rfl, rfl, rfl, rfl, rfl⟩) (by kernel_rfl) ?_
      have tk5 : TK (TR ++ [(xB, ⟨false, rootB, 0, []⟩)]) := by
        have := TR_tk.wr (who := rootB) (p := xB) (d := []) (z := 0) (by decide) (by decide)
        rw [wr_room] at this; exact this
      refine (nodes_calls tk5 k5).mono ?_
      rintro r h6 ⟨a6, c6, rfl, k6⟩
      have hl : (nodesL (TR ++ [(xB, ⟨false, rootB, 0, []⟩)])).length = 64 := by
        rw [nodesL, List.length_map]
        show (List.mergeSort _ _).length = _
        rw [List.length_mergeSort, List.length_map, List.length_append, TR_len]; rfl
      rw [hl]
      refine awpL_restE (by simp [go_sem]; exact ⟨rfl, rfl⟩) ?_; try dsimp only [thn, inBlk]
      (repeat' first
        | refine AWP.seq ?_
        | refine AWP.block ?_
        | (refine AWP.skip ?_; try dsimp only [thn, inBlk])
        | (refine AWP.exit ?_; try simp only [thn, inBlk, if_true, reduceIte, Nat.reduceEqDiff])
        | (refine AWP.ret ?_; try dsimp only [thn, inBlk])
        | (refine AWP.condT ?_ ?_; (focus (simp [go_sem]; done)))
        | (refine AWP.condF ?_ ?_; (focus (simp [go_sem]; done)))
        | (apply AWP.rE; (focus (simp [go_sem]; exact ⟨rfl, rfl⟩)); try dsimp only [thn, inBlk])
        | fail)
      simp [bodyQ, thn, inBlk, resA, resV, go_sem]
    · refine awpL_restE (by simp [go_sem]; exact ⟨rfl, rfl⟩) ?_; try dsimp only [thn, inBlk]
      (repeat' first
        | refine AWP.seq ?_
        | refine AWP.block ?_
        | (refine AWP.skip ?_; try dsimp only [thn, inBlk])
        | (refine AWP.exit ?_; try simp only [thn, inBlk, if_true, reduceIte, Nat.reduceEqDiff])
        | (refine AWP.ret ?_; try dsimp only [thn, inBlk])
        | (refine AWP.condT ?_ ?_; (focus (simp [go_sem]; done)))
        | (refine AWP.condF ?_ ?_; (focus (simp [go_sem]; done)))
        | (apply AWP.rE; (focus (simp [go_sem]; exact ⟨rfl, rfl⟩)); try dsimp only [thn, inBlk])
        | fail)
      refine AWP.callE (by simp [go_sem]; exact ⟨rfl, rfl, rfl, rfl, rfl⟩) (by kernel_rfl) ?_
      refine (mkdir_calls (who := rootB) (p := xB) (z := 61) TR_tk k4 (by decide)).mono ?_
      rintro r h5 ⟨rfl, k5⟩
      rw [mk_room] at k5 ⊢
      have tk5 : TK (TR ++ [(xB, ⟨true, rootB, 61, []⟩)]) := by
        have := TR_tk.mkd (who := rootB) (p := xB) (z := 61) (by decide) (by decide)
        rw [mk_room] at this; exact this
      refine awpL_toCall (by simp [go_sem]; exact ⟨rfl, rfl, rfl, rfl, rfl⟩) (by kernel_rfl) ?_
      refine (write_calls (who := rootB) (p := yB) (d := []) (z := 0) tk5 k5 (fun hh kk => Bytes.nil hh) (by decide) (by simp)).mono ?_
      rintro r h6 ⟨rfl, k6⟩
      rw [wr_full2]
      refine awpL_restE (by simp [go_sem]; exact ⟨rfl, rfl⟩) ?_; try dsimp only [thn, inBlk]
      (repeat' first
        | refine AWP.seq ?_
        | refine AWP.block ?_
        | (refine AWP.skip ?_; try dsimp only [thn, inBlk])
        | (refine AWP.exit ?_; try simp only [thn, inBlk, if_true, reduceIte, Nat.reduceEqDiff])
        | (refine AWP.ret ?_; try dsimp only [thn, inBlk])
        | (refine AWP.condT ?_ ?_; (focus (simp [go_sem]; done)))
        | (refine AWP.condF ?_ ?_; (focus (simp [go_sem]; done)))
        | (apply AWP.rE; (focus (simp [go_sem]; exact ⟨rfl, rfl⟩)); try dsimp only [thn, inBlk])
        | fail)
      simp [bodyQ, thn, inBlk, resA, resV, go_sem]
  have hjm' : (j : Int) < N := by omega
  obtain ⟨q, hq⟩ : ∃ q, q = j / 26 := ⟨_, rfl⟩
  obtain ⟨e, he⟩ : ∃ e, e = j % 26 := ⟨_, rfl⟩
  obtain ⟨q2, hq2⟩ : ∃ q2, q2 = 97 + q := ⟨_, rfl⟩
  obtain ⟨e2, he2⟩ : ∃ e2, e2 = 97 + e := ⟨_, rfl⟩
  obtain ⟨A, hA⟩ : ∃ A, A = UInt8.ofNat q2 := ⟨_, rfl⟩
  obtain ⟨B1, hB1⟩ : ∃ B1, B1 = UInt8.ofNat e2 := ⟨_, rfl⟩
  have wd : (j : Int).tdiv 26 = (q : Int) := by rw [hq, Int.tdiv_eq_ediv_of_nonneg (by omega)]; rfl
  have wt : (j : Int).tmod 26 = (e : Int) := by rw [he, Int.tmod_eq_emod_of_nonneg (by omega)]; rfl
  have v1 : IntKind.i64.wrap (q : Int) = (q : Int) := wI64 (by omega) (by omega)
  have v2 : IntKind.i64.wrap (e : Int) = (e : Int) := wI64 (by omega) (by omega)
  have v3 : IntKind.i64.wrap (97 + (q : Int)) = (q2 : Int) := by rw [wI64 (by omega) (by omega)]; omega
  have v4 : IntKind.i64.wrap (97 + (e : Int)) = (e2 : Int) := by rw [wI64 (by omega) (by omega)]; omega
  have v5 : IntKind.u8.wrap (q2 : Int) = (A.toNat : Int) := by rw [IntKind.wrap_u8, hA]; simp
  have v6 : IntKind.u8.wrap (e2 : Int) = (B1.toNat : Int) := by rw [IntKind.wrap_u8, hB1]; simp
  have hfp : fp j = [47, 102, A, B1] := by simp only [fp, hA, hB1, hq2, he2, hq, he]
  have s1 : strR Tryd.prog (hB.push (.row [.int .u8 A.toNat, .int .u8 B1.toNat] 5 1 true false)) 22 9 (.slice (some ⟨hB.next, 0, none⟩) 2 2) = some (.string ⟨#[A, B1]⟩) :=
    strR_new (bs := [A, B1]) Tryd.underlying22 Tryd.underlying5 Tryd.underlying9 rfl rfl
  have s2 : strA .add ⟨#[47, 102]⟩ ⟨#[A, B1]⟩ = some (tx [47, 102, A, B1]) := by
    have := strA_add [47, 102] [A, B1]
    rw [if_pos (by simp)] at this
    exact this
  have w1 : IntKind.i64.wrap ((j : Int) + 1) = ((j + 1 : Nat) : Int) := by rw [wI64 (by omega) (by omega)]; omega
  have kP := (kB.push (.row [.int .u8 A.toNat, .int .u8 B1.toNat] 5 1 true false)).tail
  (repeat' first
    | refine AWP.seq ?_
    | refine AWP.block ?_
    | (refine AWP.skip ?_; try dsimp only [thn, inBlk])
    | (refine AWP.exit ?_; try simp only [thn, inBlk, if_true, reduceIte, Nat.reduceEqDiff])
    | (refine AWP.ret ?_; try dsimp only [thn, inBlk])
    | (refine AWP.condT ?_ ?_; (focus (simp [go_sem, wz, wN, hjm', wd, wt, v1, v2, v3, v4, v5, v6, s1, s2]; done)))
    | (refine AWP.condF ?_ ?_; (focus (simp [go_sem, wz, wN, hjm', wd, wt, v1, v2, v3, v4, v5, v6, s1, s2]; done)))
    | (apply AWP.rE; (focus (simp [go_sem, wz, wN, hjm', wd, wt, v1, v2, v3, v4, v5, v6, s1, s2]; exact ⟨rfl, rfl⟩)); try dsimp only [thn, inBlk])
    | fail)
  refine AWP.callE (by simp [go_sem]; exact ⟨rfl, rfl, rfl, rfl, rfl⟩) (by kernel_rfl) ?_
  refine (write_calls (who := rootB) (p := [47, 102, A, B1]) (d := []) (z := 60) (TF_tk _ (by omega)) kP (fun hh kk => Bytes.nil hh) (by simp) (by simp)).mono ?_
  rintro r h3 ⟨rfl, k3⟩
  have hw := TF_wr (k := min j 63) (i := j) rfl (by omega)
  rw [hfp] at hw
  rw [hw] at k3 ⊢
  by_cases h63 : j < 63
  · have h63' : (j : Int) < 63 := by omega
    rw [if_pos h63] at k3 ⊢
    refine awpL_restE (by simp [go_sem]; exact ⟨rfl, rfl⟩) ?_; try dsimp only [thn, inBlk]
    (repeat' first
      | refine AWP.seq ?_
      | refine AWP.block ?_
      | (refine AWP.skip ?_; try dsimp only [thn, inBlk])
      | (refine AWP.exit ?_; try simp only [thn, inBlk, if_true, reduceIte, Nat.reduceEqDiff])
      | (refine AWP.ret ?_; try dsimp only [thn, inBlk])
      | (refine AWP.condT ?_ ?_; (focus (simp [go_sem, h63', w1]; done)))
      | (refine AWP.condF ?_ ?_; (focus (simp [go_sem, h63', w1]; done)))
      | (apply AWP.rE; (focus (simp [go_sem, h63', w1]; exact ⟨rfl, rfl⟩)); try dsimp only [thn, inBlk])
      | fail)
    exact ⟨N - (j + 1), by omega, j + 1, by omega, rfl, by simp [go_sem], k3⟩
  · have h63' : ¬ (j : Int) < 63 := by omega
    rw [if_neg h63] at k3 ⊢
    refine awpL_restE (by simp [go_sem]; exact ⟨rfl, rfl⟩) ?_; try dsimp only [thn, inBlk]
    (repeat' first
      | refine AWP.seq ?_
      | refine AWP.block ?_
      | (refine AWP.skip ?_; try dsimp only [thn, inBlk])
      | (refine AWP.exit ?_; try simp only [thn, inBlk, if_true, reduceIte, Nat.reduceEqDiff])
      | (refine AWP.ret ?_; try dsimp only [thn, inBlk])
      | (refine AWP.condT ?_ ?_; (focus (simp [go_sem, h63', w1]; done)))
      | (refine AWP.condF ?_ ?_; (focus (simp [go_sem, h63', w1]; done)))
      | (apply AWP.rE; (focus (simp [go_sem, h63', w1]; exact ⟨rfl, rfl⟩)); try dsimp only [thn, inBlk])
      | fail)
    exact ⟨N - (j + 1), by omega, j + 1, by omega, rfl, by simp [go_sem], k3⟩
end L19
