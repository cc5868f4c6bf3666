import Derived.Test.YteodcjamnfoidaaDoorL19zc
import Derived.Test.YteodcjamnfoidaaDoorAbLibE
open Go Ab Go.Proofs
namespace L19
set_option autoImplicit false
set_option linter.unusedSimpArgs false
set_option linter.unusedVariables false

abbrev bl : Bool → Value := .bool
/-- The directories met so far. -/
def dirs (N : TL) : List (List UInt8 × Bool) := (N.filter fun x => x.2.dir).map fun x => (x.1, true)
abbrev agN (x : List UInt8 × Nd) (a : Option Addr) (cap : Nat) : List Value := [tx x.1, .bool x.2.dir, tx x.2.own, .int .i64 x.2.mode, .slice a x.2.data.length cap]
theorem nds_row {O : Old} {h : AHeap} {R : List Chunk} {v : Value} {xs : TL} {j : Nat} {x : List UInt8 × Nd} (k : Own O h (nds v xs :: R)) (hj : xs[j]? = some x) {kd : IntKind} :
    ∃ i off c e' sz' ti ro a cap, indexAddrP Tryd.prog 40 v (.int kd j) = some (.pointer (some ⟨i, off, none⟩)) ∧ h.obj i = some (.row c e' sz' ti ro) ∧ off + 5 ≤ c.length ∧ (c.drop off).take 5 = agN x a cap ∧ c[off]? = some (tx x.1) := by
  obtain ⟨hjl, _⟩ := List.getElem?_eq_some_iff.1 hj
  obtain ⟨ws, hw, k0⟩ := grecs_iff.1 k
  have hwj : ws[j]? = some (ws[j]'(by omega)) := List.getElem?_eq_getElem (by omega)
  generalize ws[j]'(by omega) = w at hwj
  obtain ⟨a, cap⟩ := w
  obtain ⟨i, off, c, e', sz', ti, ro, q1, q2, q3, q4, q5⟩ := k0.os_sl.record (P := Tryd.prog) (t := 40) Tryd.underlying40 tsz43 (l := gcells ncells xs ws) (gcells_all (fun _ _ => rfl)) (gcells_length hw) hjl (kd := kd)
  have hr := gcells_get (row := ncells) hj hwj
  rw [List.getElem?_eq_getElem (by rw [gcells_length hw]; exact hjl)] at hr
  have hr := Option.some.inj hr
  rw [hr] at q4 q5
  exact ⟨i, off, c, e', sz', ti, ro, a, cap, q1, q2, q3, q4, q5 0 _ rfl⟩

theorem dirs_take {N : TL} {x : Nat} {y : List UInt8 × Nd} (hy : N[x]? = some y) : dirs (N.take (x + 1)) = dirs (N.take x) ++ (if y.2.dir = true then [(y.1, true)] else []) := by
  obtain ⟨h1, h2⟩ := List.getElem?_eq_some_iff.1 hy
  rw [List.take_succ_eq_append_getElem h1, h2]
  simp only [dirs, List.filter_append, List.map_append]
  cases hd : y.2.dir <;> simp [hd]
theorem dirs_key {N : TL} (h : N.Pairwise fun a b => a.1 < b.1) (x : Nat) : ((dirs (N.take x)).map (·.1)).Nodup := by
  have e : (dirs (N.take x)).map (·.1) = ((N.take x).filter fun x => x.2.dir).map (·.1) := by simp [dirs, List.map_map, Function.comp_def]
  rw [e]
  have h1 : (N.map (·.1)).Nodup := by
    rw [List.Nodup, List.pairwise_map]
    exact h.imp fun {a b} q e => by rw [e] at q; exact List.lt_irrefl _ q
  exact ((List.filter_sublist.trans (List.take_sublist x N)).map _).nodup h1
theorem dirs_mem {N : TL} {x j : Nat} {p : List UInt8} {nd : Nd} (hj : N[j]? = some (p, nd)) (h : j < x) (hd : nd.dir = true) : (p, true) ∈ dirs (N.take x) := by
  refine List.mem_map.2 ⟨(p, nd), List.mem_filter.2 ⟨?_, hd⟩, rfl⟩
  exact List.mem_of_getElem? (i := j) (by rw [List.getElem?_take_of_lt h]; exact hj)
theorem dirs_lt {N : TL} (h : N.Pairwise fun a b => a.1 < b.1) {x : Nat} {y : List UInt8 × Nd} (hy : N[x]? = some y) : ∀ p ∈ dirs (N.take x), p.1 ≠ y.1 ∧ ∃ z ∈ N, z.1 = p.1 := by
  intro p hp
  obtain ⟨z, hz, rfl⟩ := List.mem_map.1 hp
  obtain ⟨hz, _⟩ := List.mem_filter.1 hz
  obtain ⟨j, hj⟩ := List.mem_iff_getElem?.1 hz
  have hjx : j < x := by
    have := (List.getElem?_eq_some_iff.1 hj).1
    rw [List.length_take] at this; omega
  rw [List.getElem?_take_of_lt hjx] at hj
  have := pairwise_get h hj hy hjx
  exact ⟨fun e => by dsimp only at e; rw [e] at this; exact List.lt_irrefl _ this, z, List.mem_of_getElem? hj, rfl⟩

set_option maxHeartbeats 16000000 in
theorem sound_calls {h : AHeap} {v : Value} {s1 : List Op} (hb : h.base = h.next) (hp : BR preO 6 h v s1) (hn1 : s1.length ≤ 9223372036854775807) :
    ACalls Tryd.prog 5 #[v] h fun r _ => r = .bool true := by
  refine Own.of_wf fun k0 => ?_
  obtain ⟨ac1, la1, sl1, bd1⟩ := id hp
  have A1 : OpsA h v s1 ac1 := ⟨la1, sl1, bd1⟩
  obtain ⟨va, vc, rfl⟩ := hp.val
  refine ACalls.of_awp (args := [.slice va s1.length vc]) (n := 128) Tryd.func5 rfl rfl (by show 1 ≤ 128; omega) ?_
  (repeat' first
    | refine AWP.seq ?_
    | refine AWP.block ?_
    | (refine AWP.skip ?_; try dsimp only [thn, inBlk])
    | (refine AWP.exit ?_; try simp only [thn, inBlk, if_true, reduceIte, Nat.reduceEqDiff])
    | (refine AWP.ret ?_; try dsimp only [thn, inBlk])
    | (refine AWP.condT ?_ ?_; (focus (simp [go_sem]; done)))
    | (refine AWP.condF ?_ ?_; (focus (simp [go_sem]; done)))
    | (apply AWP.rE; (focus (simp [go_sem]; exact ⟨rfl, rfl⟩)); try dsimp only [thn, inBlk])
    | fail)
  refine AWP.callE (by simp [go_sem]; exact ⟨rfl, rfl, rfl, rfl, rfl⟩) (by kernel_rfl) ?_
  refine (speaks_calls k0).mono ?_
  rintro r h1 ⟨rfl, k1⟩
  refine awpL_restE (by simp [go_sem]; exact ⟨rfl, rfl⟩) ?_; try dsimp only [thn, inBlk]
  (repeat' first
    | refine AWP.seq ?_
    | refine AWP.block ?_
    | (refine AWP.skip ?_; try dsimp only [thn, inBlk])
    | (refine AWP.exit ?_; try simp only [thn, inBlk, if_true, reduceIte, Nat.reduceEqDiff])
    | (refine AWP.ret ?_; try dsimp only [thn, inBlk])
    | (refine AWP.condT ?_ ?_; (focus (simp [go_sem]; done)))
    | (refine AWP.condF ?_ ?_; (focus (simp [go_sem]; done)))
    | (apply AWP.rE; (focus (simp [go_sem]; exact ⟨rfl, rfl⟩)); try dsimp only [thn, inBlk])
    | fail)
  refine AWP.callE (by simp [go_sem]; exact ⟨rfl, rfl, rfl, rfl, rfl⟩) (by kernel_rfl) ?_
  refine (great_calls k1 (fun hh kk => hp.of_old hb kk) hn1).mono ?_
  rintro r h2 ⟨b1, rfl, g1, k2⟩
  cases b1
  rotate_left
  · refine awpL_restE (by simp [go_sem]; exact ⟨rfl, rfl⟩) ?_; try dsimp only [thn, inBlk]
    (repeat' first
      | refine AWP.seq ?_
      | refine AWP.block ?_
      | (refine AWP.skip ?_; try dsimp only [thn, inBlk])
      | (refine AWP.exit ?_; try simp only [thn, inBlk, if_true, reduceIte, Nat.reduceEqDiff])
      | (refine AWP.ret ?_; try dsimp only [thn, inBlk])
      | (refine AWP.condT ?_ ?_; (focus (simp [go_sem]; done)))
      | (refine AWP.condF ?_ ?_; (focus (simp [go_sem]; done)))
      | (apply AWP.rE; (focus (simp [go_sem]; exact ⟨rfl, rfl⟩)); try dsimp only [thn, inBlk])
      | fail)
    simp [bodyQ, thn, inBlk, resA, resV, go_sem]
  obtain ⟨l1, o1⟩ := g1 rfl
  refine awpL_restE (by simp [go_sem]; exact ⟨rfl, rfl⟩) ?_; try dsimp only [thn, inBlk]
  (repeat' first
    | refine AWP.seq ?_
    | refine AWP.block ?_
    | (refine AWP.skip ?_; try dsimp only [thn, inBlk])
    | (refine AWP.exit ?_; try simp only [thn, inBlk, if_true, reduceIte, Nat.reduceEqDiff])
    | (refine AWP.ret ?_; try dsimp only [thn, inBlk])
    | (refine AWP.condT ?_ ?_; (focus (simp [go_sem]; done)))
    | (refine AWP.condF ?_ ?_; (focus (simp [go_sem]; done)))
    | (apply AWP.rE; (focus (simp [go_sem]; exact ⟨rfl, rfl⟩)); try dsimp only [thn, inBlk])
    | fail)
  refine AWP.callE (by simp [go_sem]; exact ⟨rfl, rfl, rfl, rfl, rfl⟩) (by kernel_rfl) ?_
  refine (new_calls k2).mono ?_
  rintro r h4 ⟨i, rfl, k4⟩
  refine awpL_restE (by simp [go_sem]; exact ⟨rfl, rfl⟩) ?_; try dsimp only [thn, inBlk]
  (repeat' first
    | refine AWP.seq ?_
    | refine AWP.block ?_
    | (refine AWP.skip ?_; try dsimp only [thn, inBlk])
    | (refine AWP.exit ?_; try simp only [thn, inBlk, if_true, reduceIte, Nat.reduceEqDiff])
    | (refine AWP.ret ?_; try dsimp only [thn, inBlk])
    | (refine AWP.condT ?_ ?_; (focus (simp [go_sem]; done)))
    | (refine AWP.condF ?_ ?_; (focus (simp [go_sem]; done)))
    | (apply AWP.rE; (focus (simp [go_sem]; exact ⟨rfl, rfl⟩)); try dsimp only [thn, inBlk])
    | fail)
  refine AWP.loopR [3, 17, 18, 19] (fun m s h' => ∃ (j : Nat) (T : TL), j ≤ s1.length ∧ m = s1.length - j ∧ s = ⟨128, [(3, ptr i), (17, .slice va s1.length vc), (18, .int .i64 s1.length), (19, .int .i64 j)]⟩ ∧ TS T ∧ Own h.asOld h' [tr i T]) ?_ ?_
  · exact ⟨_, 0, _, by omega, rfl, rfl, TS.top, k4⟩
  rintro m s hB ⟨j, T, hj, rfl, rfl, hT, kB⟩
  by_cases hjm : j < s1.length
  · have hjm' : (j : Int) < s1.length := by omega
    have hoj : s1[j]? = some s1[j] := List.getElem?_eq_getElem hjm
    have haj : ac1[j]? = some (ac1[j]'(by omega)) := List.getElem?_eq_getElem (by omega)
    have hOB := o1 _ (List.getElem_mem hjm)
    obtain ⟨i0, f0, c0, e0, z0, ti0, ro0, p0, q0, m0, t0⟩ := ops_row A1 hb kB hoj haj (kd := .i64)
    have hbd := bd1 j _ _ hoj haj
    generalize s1[j] = o at t0 hOB hbd
    generalize (ac1[j]'(by omega)) = p at t0 hbd
    obtain ⟨⟨ok, om, ow, op, oo⟩, od⟩ := o
    obtain ⟨pa, pc⟩ := p
    have hb1 := hOB.dl
    have hb2 := hOB.pl
    have hb3 := hOB.wl
    dsimp only [orow] at t0 hb1 hb2 hb3 hbd
    have w1 : IntKind.i64.wrap ((j : Int) + 1) = ((j + 1 : Nat) : Int) := by rw [wI64 (by omega) (by omega)]; omega
    have k5 := kB.push (.row [.int .i64 ok, .int .i64 om, tx ow, tx op, tx oo, .slice pa od.length pc] 37 6 true false)
    have c5 := k5.obj
    obtain ⟨K, hK1, wK⟩ := and_mask ok 3 (by omega)
    match K, hK1 with
    | 0, _ =>
      (repeat' first
        | refine AWP.seq ?_
        | refine AWP.block ?_
        | (refine AWP.skip ?_; try dsimp only [thn, inBlk])
        | (refine AWP.exit ?_; try simp only [thn, inBlk, if_true, reduceIte, Nat.reduceEqDiff])
        | (refine AWP.ret ?_; try dsimp only [thn, inBlk])
        | (refine AWP.condT ?_ ?_; (focus (simp [go_sem, hjm', p0, q0, m0, t0, c5, wK]; done)))
        | (refine AWP.condF ?_ ?_; (focus (simp [go_sem, hjm', p0, q0, m0, t0, c5, wK]; done)))
        | (apply AWP.rE; (focus (simp [go_sem, hjm', p0, q0, m0, t0, c5, wK]; exact ⟨rfl, rfl⟩)); try dsimp only [thn, inBlk])
        | fail)
      refine AWP.callE (by simp [go_sem, c5]; exact ⟨rfl, rfl, rfl, rfl, rfl⟩) (by kernel_rfl) ?_
      refine (remove_calls (who := ow) (p := op) hT.toTK k5.b1 (by omega)).mono ?_
      rintro r h6 ⟨rfl, k6⟩
      refine awpL_restE (by simp [go_sem]; exact ⟨rfl, rfl⟩) ?_; try dsimp only [thn, inBlk]
      (repeat' first
        | refine AWP.seq ?_
        | refine AWP.block ?_
        | (refine AWP.skip ?_; try dsimp only [thn, inBlk])
        | (refine AWP.exit ?_; try simp only [thn, inBlk, if_true, reduceIte, Nat.reduceEqDiff])
        | (refine AWP.ret ?_; try dsimp only [thn, inBlk])
        | (refine AWP.condT ?_ ?_; (focus (simp [go_sem, w1]; done)))
        | (refine AWP.condF ?_ ?_; (focus (simp [go_sem, w1]; done)))
        | (apply AWP.rE; (focus (simp [go_sem, w1]; exact ⟨rfl, rfl⟩)); try dsimp only [thn, inBlk])
        | fail)
      exact ⟨s1.length - (j + 1), by omega, j + 1, _, by omega, rfl, by simp [go_sem], hT.rm, k6.d1⟩
    | 1, _ =>
      (repeat' first
        | refine AWP.seq ?_
        | refine AWP.block ?_
        | (refine AWP.skip ?_; try dsimp only [thn, inBlk])
        | (refine AWP.exit ?_; try simp only [thn, inBlk, if_true, reduceIte, Nat.reduceEqDiff])
        | (refine AWP.ret ?_; try dsimp only [thn, inBlk])
        | (refine AWP.condT ?_ ?_; (focus (simp [go_sem, hjm', p0, q0, m0, t0, c5, wK]; done)))
        | (refine AWP.condF ?_ ?_; (focus (simp [go_sem, hjm', p0, q0, m0, t0, c5, wK]; done)))
        | (apply AWP.rE; (focus (simp [go_sem, hjm', p0, q0, m0, t0, c5, wK]; exact ⟨rfl, rfl⟩)); try dsimp only [thn, inBlk])
        | fail)
      refine AWP.callE (by simp [go_sem, c5]; exact ⟨rfl, rfl, rfl, rfl, rfl⟩) (by kernel_rfl) ?_
      refine (write_calls (who := ow) (p := op) (d := od) (z := om) hT.toTK k5.b1 (fun hh kk => hbd.of_old hb kk) (by omega) (by omega)).mono ?_
      rintro r h6 ⟨rfl, k6⟩
      refine awpL_restE (by simp [go_sem]; exact ⟨rfl, rfl⟩) ?_; try dsimp only [thn, inBlk]
      (repeat' first
        | refine AWP.seq ?_
        | refine AWP.block ?_
        | (refine AWP.skip ?_; try dsimp only [thn, inBlk])
        | (refine AWP.exit ?_; try simp only [thn, inBlk, if_true, reduceIte, Nat.reduceEqDiff])
        | (refine AWP.ret ?_; try dsimp only [thn, inBlk])
        | (refine AWP.condT ?_ ?_; (focus (simp [go_sem, w1]; done)))
        | (refine AWP.condF ?_ ?_; (focus (simp [go_sem, w1]; done)))
        | (apply AWP.rE; (focus (simp [go_sem, w1]; exact ⟨rfl, rfl⟩)); try dsimp only [thn, inBlk])
        | fail)
      exact ⟨s1.length - (j + 1), by omega, j + 1, _, by omega, rfl, by simp [go_sem], hT.wr hb2 (by omega), k6.d1⟩
    | K + 2, hK1 =>
      have g3 : ¬ (K : Int) + 2 = 0 := by omega
      have g4 : ¬ (K : Int) + 2 = 1 := by omega
      (repeat' first
        | refine AWP.seq ?_
        | refine AWP.block ?_
        | (refine AWP.skip ?_; try dsimp only [thn, inBlk])
        | (refine AWP.exit ?_; try simp only [thn, inBlk, if_true, reduceIte, Nat.reduceEqDiff])
        | (refine AWP.ret ?_; try dsimp only [thn, inBlk])
        | (refine AWP.condT ?_ ?_; (focus (simp [go_sem, hjm', p0, q0, m0, t0, c5, wK, g3, g4]; done)))
        | (refine AWP.condF ?_ ?_; (focus (simp [go_sem, hjm', p0, q0, m0, t0, c5, wK, g3, g4]; done)))
        | (apply AWP.rE; (focus (simp [go_sem, hjm', p0, q0, m0, t0, c5, wK, g3, g4]; exact ⟨rfl, rfl⟩)); try dsimp only [thn, inBlk])
        | fail)
      refine AWP.callE (by simp [go_sem, c5]; exact ⟨rfl, rfl, rfl, rfl, rfl⟩) (by kernel_rfl) ?_
      refine (mkdir_calls (who := ow) (p := op) (z := om) hT.toTK k5.b1 (by omega)).mono ?_
      rintro r h6 ⟨rfl, k6⟩
      refine awpL_restE (by simp [go_sem]; exact ⟨rfl, rfl⟩) ?_; try dsimp only [thn, inBlk]
      (repeat' first
        | refine AWP.seq ?_
        | refine AWP.block ?_
        | (refine AWP.skip ?_; try dsimp only [thn, inBlk])
        | (refine AWP.exit ?_; try simp only [thn, inBlk, if_true, reduceIte, Nat.reduceEqDiff])
        | (refine AWP.ret ?_; try dsimp only [thn, inBlk])
        | (refine AWP.condT ?_ ?_; (focus (simp [go_sem, w1]; done)))
        | (refine AWP.condF ?_ ?_; (focus (simp [go_sem, w1]; done)))
        | (apply AWP.rE; (focus (simp [go_sem, w1]; exact ⟨rfl, rfl⟩)); try dsimp only [thn, inBlk])
        | fail)
      exact ⟨s1.length - (j + 1), by omega, j + 1, _, by omega, rfl, by simp [go_sem], hT.mkd hb2 (by omega), k6.d1⟩
  have hjm' : ¬ (j : Int) < s1.length := by omega
  clear hj hjm
  have kM := kB.map_new (ke := tx) (ve := bl)
  (repeat' first
    | refine AWP.seq ?_
    | refine AWP.block ?_
    | (refine AWP.skip ?_; try dsimp only [thn, inBlk])
    | (refine AWP.exit ?_; try simp only [thn, inBlk, if_true, reduceIte, Nat.reduceEqDiff])
    | (refine AWP.ret ?_; try dsimp only [thn, inBlk])
    | (refine AWP.condT ?_ ?_; (focus (simp [go_sem, hjm']; done)))
    | (refine AWP.condF ?_ ?_; (focus (simp [go_sem, hjm']; done)))
    | (apply AWP.rE; (focus (simp [go_sem, hjm']; exact ⟨rfl, rfl⟩)); try dsimp only [thn, inBlk])
    | fail)
  refine AWP.callE (by simp [go_sem]; exact ⟨rfl, rfl, rfl, rfl, rfl⟩) (by kernel_rfl) ?_
  refine (nodes_calls hT.toTK kM.b1).mono ?_
  rintro r h6 ⟨a6, c6, rfl, k6⟩
  have nl := nodes_NL hT.toTI
  have hlen : (nodesL T).length ≤ 64 := by rw [nl.len]; exact hT.mx
  generalize nodesL T = N at k6 nl hlen
  refine awpL_restE (by simp [go_sem]; exact ⟨rfl, rfl⟩) ?_; try dsimp only [thn, inBlk]
  (repeat' first
    | refine AWP.seq ?_
    | refine AWP.block ?_
    | (refine AWP.skip ?_; try dsimp only [thn, inBlk])
    | (refine AWP.exit ?_; try simp only [thn, inBlk, if_true, reduceIte, Nat.reduceEqDiff])
    | (refine AWP.ret ?_; try dsimp only [thn, inBlk])
    | (refine AWP.condT ?_ ?_; (focus (simp [go_sem]; done)))
    | (refine AWP.condF ?_ ?_; (focus (simp [go_sem]; done)))
    | (apply AWP.rE; (focus (simp [go_sem]; exact ⟨rfl, rfl⟩)); try dsimp only [thn, inBlk])
    | fail)
  generalize hB.next = mi at k6
  refine AWP.loopR [6, 7, 58, 59, 60] (fun m s h' => ∃ (x : Nat), x ≤ N.length ∧ m = N.length - x ∧ s = ⟨128, [(6, .map (some mi)), (7, .slice a6 N.length c6), (58, .slice a6 N.length c6), (59, .int .i64 N.length), (60, .int .i64 x)]⟩ ∧ Own h.asOld h' [nds (.slice a6 N.length c6) N, mpc tx bl mi (dirs (N.take x))]) ?_ ?_
  · exact ⟨_, 0, by omega, rfl, rfl, k6.d1⟩
  rintro m s hC ⟨x, hx, rfl, rfl, kC⟩
  by_cases hxm : x < N.length
  rotate_left
  · have hxm' : ¬ (x : Int) < N.length := by omega
    obtain ⟨nd0, hN0⟩ := nl.first hT
    obtain ⟨hN1, _⟩ := List.getElem?_eq_some_iff.1 hN0
    obtain ⟨i0, f0, c0, e0, z0, ti0, ro0, a0, n0, p0, q0, m0, t0, u0⟩ := nds_row kC hN0 (kd := .i64)
    have g1 : (1 : Int) ≤ N.length := by omega
    have g2 : (N.length : Int) ≤ 64 := by omega
    have p0' : indexAddrP Tryd.prog 40 (.slice a6 N.length c6) (.int .i64 0) = some (.pointer (some ⟨i0, f0, none⟩)) := p0
    (repeat' first
      | refine AWP.seq ?_
      | refine AWP.block ?_
      | (refine AWP.skip ?_; try dsimp only [thn, inBlk])
      | (refine AWP.exit ?_; try simp only [thn, inBlk, if_true, reduceIte, Nat.reduceEqDiff])
      | (refine AWP.ret ?_; try dsimp only [thn, inBlk])
      | (refine AWP.condT ?_ ?_; (focus (simp [go_sem, hxm', g1, g2, p0', q0, u0]; done)))
      | (refine AWP.condF ?_ ?_; (focus (simp [go_sem, hxm', g1, g2, p0', q0, u0]; done)))
      | (apply AWP.rE; (focus (simp [go_sem, hxm', g1, g2, p0', q0, u0]; exact ⟨rfl, rfl⟩)); try dsimp only [thn, inBlk])
      | fail)
    simp [bodyQ, thn, inBlk, resA, resV, go_sem]
  · have hxm' : (x : Int) < N.length := by omega
    have w1 : IntKind.i64.wrap ((x : Int) + 1) = ((x + 1 : Nat) : Int) := by rw [wI64 (by omega) (by omega)]; omega
    obtain ⟨y, hy⟩ : ∃ y, N[x]? = some y := ⟨_, List.getElem?_eq_getElem hxm⟩
    obtain ⟨i0, f0, c0, e0, z0, ti0, ro0, a0, n0, p0, q0, m0, t0, u0⟩ := nds_row kC hy (kd := .i64)
    have k7 := kC.push (.row (agN y a0 n0) 43 5 true false)
    have c7 := k7.obj
    have hyT := nl.mem _ (List.mem_of_getElem? hy)
    have hps := hT.ps _ hyT
    have hpa := hT.pa _ hyT
    have hdt := dirs_take hy
    have hdk := dirs_key nl.srt x
    have hdl := dirs_lt nl.srt hy
    have hdm : ∀ p ∈ dirs (N.take x), p.1.length ≤ 1000000 := fun p hp => by
      obtain ⟨_, z, hz, e⟩ := hdl p hp
      rw [← e]; exact hT.pl _ (nl.mem _ hz)
    have hpr := fun h => nl.par_at hT hy h
    obtain ⟨yp, ⟨ydir, yown, ymode, ydata⟩⟩ := y
    dsimp only at *
    have hdd : ydir = true → ydata = [] := fun h => by subst h; exact hT.dd _ hyT rfl
    by_cases hx0 : x = 0
    · subst hx0
      obtain ⟨nd0, hN0⟩ := nl.first hT
      rw [hy] at hN0
      obtain rfl := (Prod.mk.inj (Option.some.inj hN0)).1
      have p0' : indexAddrP Tryd.prog 40 (.slice a6 N.length c6) (.int .i64 0) = some (.pointer (some ⟨i0, f0, none⟩)) := p0
      have hpos : 0 < N.length := hxm
      have hpos' : (0 : Int) < N.length := hxm'
      (repeat' first
        | refine AWP.seq ?_
        | refine AWP.block ?_
        | (refine AWP.skip ?_; try dsimp only [thn, inBlk])
        | (refine AWP.exit ?_; try simp only [thn, inBlk, if_true, reduceIte, Nat.reduceEqDiff])
        | (refine AWP.ret ?_; try dsimp only [thn, inBlk])
        | (refine AWP.condT ?_ ?_; (focus (simp [go_sem, hpos, hpos', p0', q0, m0, t0]; done)))
        | (refine AWP.condF ?_ ?_; (focus (simp [go_sem, hpos, hpos', p0', q0, m0, t0]; done)))
        | (apply AWP.rE; (focus (simp [go_sem, hpos, hpos', p0', q0, m0, t0]; exact ⟨rfl, rfl⟩)); try dsimp only [thn, inBlk])
        | fail)
      refine AWP.draw hmix [.n 0 [8], .n 1 [65], .n 2 [66], .n 3 [7, 67], .n 4 [8, 67], .n 5 [69, 67], .n 6 [68, 70, 67], .n 7 [71, 67], .n 8 [72, 67], .n 9 [9, 67], .n 10 [74, 67], .n 11 [73, 75, 67], .n 12 [67, 76], .n 13 [77], .n 14 [9, 78], .n 15 [79, 78], .w 16 [80, 78] [], .n 17 [81, 78], .n 18 [78, 82], .n 19 [83], .n 20 [9, 84], .n 21 [85, 84], .n 22 [86, 84], .n 23 [87, 84], .n 24 [6, 88], .n 25 [9, 88], .n 26 [90, 88], .w 27 [91, 88] [], .n 28 [89, 92, 88], .n 29 [93, 88], .n 30 [88, 94, 84], .n 31 [84, 95], .n 32 [96], .n 33 [9, 97], .n 34 [98, 97], .n 35 [99, 97], .n 36 [9, 100], .n 37 [101, 100], .n 38 [102, 100], .n 39 [103, 100], .n 40 [100, 104, 97], .n 41 [97, 105]] (by kernel_rfl) ?_
      refine awpD_callR 16 (by rfl) (by rfl) (by simp [go_sem, c7]; exact ⟨rfl, rfl, rfl⟩) (by rfl) (by rfl) (by simp [go_sem]) (by simp [go_sem, c7]; exact ⟨rfl, rfl⟩) (by kernel_rfl) ?_
      refine (path_calls k7 (by decide)).mono ?_
      rintro r h7 ⟨rfl, k8⟩
      rw [hpa]
      have c8 := k8.obj
      refine ⟨by simp [still, go_sem, c7, c8], ?_⟩
      refine awpD_skipR 10 (by rfl) (by rfl) (by simp [go_sem, c8]; exact ⟨rfl, rfl, rfl⟩) (by rfl) (by rfl) (by simp [go_sem]) ?_
      cases ydir
      · refine awpD_restR (by rfl) (by simp [go_sem, c8]; exact ⟨rfl, rfl, rfl⟩) ?_; try dsimp only [thn, inBlk]
        (repeat' first
          | refine AWP.seq ?_
          | refine AWP.block ?_
          | (refine AWP.skip ?_; try dsimp only [thn, inBlk])
          | (refine AWP.exit ?_; try simp only [thn, inBlk, if_true, reduceIte, Nat.reduceEqDiff])
          | (refine AWP.ret ?_; try dsimp only [thn, inBlk])
          | (refine AWP.condT ?_ ?_; (focus (simp [go_sem, c8, w1]; done)))
          | (refine AWP.condF ?_ ?_; (focus (simp [go_sem, c8, w1]; done)))
          | (apply AWP.rE; (focus (simp [go_sem, c8, w1]; exact ⟨rfl, rfl⟩)); try dsimp only [thn, inBlk])
          | fail)
        refine ⟨N.length - (0 + 1), by omega, 0 + 1, by omega, rfl, by simp [go_sem]; rfl, ?_⟩
        rw [hdt]
        simpa using k8.tail
      · obtain rfl := hdd rfl
        obtain ⟨h8, e8, n8, k9⟩ := k8.b2.map_put txEnc Tryd.underlying39 (x := [47]) (v := true) (by simp) hdm hdk (fun p hp => (hdl p hp).1)
        have e8 : mapUpdW Tryd.prog h7 39 (.map (some mi)) (.string ⟨#[47]⟩) (.bool true) = some h8 := e8
        refine awpD_restR (by rfl) (by simp [go_sem, c8]; exact ⟨rfl, rfl, rfl⟩) ?_; try dsimp only [thn, inBlk]
        (repeat' first
          | refine AWP.seq ?_
          | refine AWP.block ?_
          | (refine AWP.skip ?_; try dsimp only [thn, inBlk])
          | (refine AWP.exit ?_; try simp only [thn, inBlk, if_true, reduceIte, Nat.reduceEqDiff])
          | (refine AWP.ret ?_; try dsimp only [thn, inBlk])
          | (refine AWP.condT ?_ ?_; (focus (simp [go_sem, c8, w1, e8]; done)))
          | (refine AWP.condF ?_ ?_; (focus (simp [go_sem, c8, w1, e8]; done)))
          | (apply AWP.rE; (focus (simp [go_sem, c8, w1, e8]; exact ⟨rfl, rfl⟩)); try dsimp only [thn, inBlk])
          | fail)
        refine ⟨N.length - (0 + 1), by omega, 0 + 1, by omega, rfl, by simp [go_sem]; rfl, ?_⟩
        rw [hdt]
        exact k9.d1.b1
    · have hx1 : 0 < x := by omega
      have hx1' : (0 : Int) < (x : Int) := by omega
      obtain ⟨u, hu⟩ : ∃ u, u = x - 1 := ⟨_, rfl⟩
      have w2 : IntKind.i64.wrap ((x : Int) - 1) = (u : Int) := by rw [wI64 (by omega) (by omega)]; omega
      obtain ⟨y2, hy2⟩ : ∃ y, N[u]? = some y := ⟨_, List.getElem?_eq_getElem (by omega)⟩
      obtain ⟨i2, f2, c2, e2, z2, ti2, ro2, a2, n2, p2, q2, m2, t2, u2⟩ := nds_row k7.b1 hy2 (kd := .i64)
      have hlt := pairwise_get nl.srt hy2 hy (by omega)
      obtain ⟨nd0, hN0⟩ := nl.first hT
      have hy47 : yp ≠ [47] := by
        rintro rfl
        have := pairwise_get nl.srt hN0 hy (by omega)
        exact List.lt_irrefl _ this
      have hy47' : (yp == [47]) = false := by simpa using hy47
      obtain ⟨j', nd, hj', hNj, hnd⟩ := hpr hy47
      have hin := dirs_mem hNj hj' hnd
      dsimp only at hlt
      have hpl : (par yp).length ≤ 1000000 := by
        have := hT.pl _ (nl.mem _ (List.mem_of_getElem? hNj)); exact this
      (repeat' first
        | refine AWP.seq ?_
        | refine AWP.block ?_
        | (refine AWP.skip ?_; try dsimp only [thn, inBlk])
        | (refine AWP.exit ?_; try simp only [thn, inBlk, if_true, reduceIte, Nat.reduceEqDiff])
        | (refine AWP.ret ?_; try dsimp only [thn, inBlk])
        | (refine AWP.condT ?_ ?_; (focus (simp [go_sem, hxm', p0, q0, m0, t0]; done)))
        | (refine AWP.condF ?_ ?_; (focus (simp [go_sem, hxm', p0, q0, m0, t0]; done)))
        | (apply AWP.rE; (focus (simp [go_sem, hxm', p0, q0, m0, t0]; exact ⟨rfl, rfl⟩)); try dsimp only [thn, inBlk])
        | fail)
      refine AWP.draw hmix [.n 0 [8], .n 1 [65], .n 2 [66], .n 3 [7, 67], .n 4 [8, 67], .n 5 [69, 67], .n 6 [68, 70, 67], .n 7 [71, 67], .n 8 [72, 67], .n 9 [9, 67], .n 10 [74, 67], .n 11 [73, 75, 67], .n 12 [67, 76], .n 13 [77], .n 14 [9, 78], .n 15 [79, 78], .w 16 [80, 78] [], .n 17 [81, 78], .n 18 [78, 82], .n 19 [83], .n 20 [9, 84], .n 21 [85, 84], .n 22 [86, 84], .n 23 [87, 84], .n 24 [6, 88], .n 25 [9, 88], .n 26 [90, 88], .w 27 [91, 88] [], .n 28 [89, 92, 88], .n 29 [93, 88], .n 30 [88, 94, 84], .n 31 [84, 95], .n 32 [96], .n 33 [9, 97], .n 34 [98, 97], .n 35 [99, 97], .n 36 [9, 100], .n 37 [101, 100], .n 38 [102, 100], .n 39 [103, 100], .n 40 [100, 104, 97], .n 41 [97, 105]] (by kernel_rfl) ?_
      refine awpD_callR 16 (by rfl) (by rfl) (by simp [go_sem, c7, hx1, hx1', w2, p2, q2, u2, strA_geq, hlt]; exact ⟨rfl, rfl, rfl⟩) (by rfl) (by rfl) (by simp [go_sem]) (by simp [go_sem, c7, hx1, hx1', w2, p2, q2, u2, strA_geq, hlt]; exact ⟨rfl, rfl⟩) (by kernel_rfl) ?_
      refine (path_calls k7 (by omega)).mono ?_
      rintro r h7 ⟨rfl, k8⟩
      rw [hpa]
      have c8 := k8.obj
      have hlk := k8.b2.map_hit txEnc Tryd.underlying39 (z := .bool false) (by kernel_rfl) rfl (x := par yp) (v := true) hpl hdm hdk hin false
      refine ⟨by simp [still, go_sem, c7, c8], ?_⟩
      refine awpD_callR 10 (by rfl) (by rfl) (by simp [go_sem, c8, hy47']; exact ⟨rfl, rfl, rfl⟩) (by rfl) (by rfl) (by simp [go_sem]) (by simp [go_sem, c8, hy47']; exact ⟨rfl, rfl⟩) (by kernel_rfl) ?_
      refine (rpar_calls (l := yp) (by omega)).mono ?_
      rintro r h9 ⟨rfl, rfl⟩
      refine ⟨by simp [still, go_sem, c8], ?_⟩
      cases ydir
      · refine awpD_restR (by rfl) (by simp [go_sem, c8, hlk]; exact ⟨rfl, rfl, rfl⟩) ?_; try dsimp only [thn, inBlk]
        (repeat' first
          | refine AWP.seq ?_
          | refine AWP.block ?_
          | (refine AWP.skip ?_; try dsimp only [thn, inBlk])
          | (refine AWP.exit ?_; try simp only [thn, inBlk, if_true, reduceIte, Nat.reduceEqDiff])
          | (refine AWP.ret ?_; try dsimp only [thn, inBlk])
          | (refine AWP.condT ?_ ?_; (focus (simp [go_sem, c8, w1]; done)))
          | (refine AWP.condF ?_ ?_; (focus (simp [go_sem, c8, w1]; done)))
          | (apply AWP.rE; (focus (simp [go_sem, c8, w1]; exact ⟨rfl, rfl⟩)); try dsimp only [thn, inBlk])
          | fail)
        refine ⟨N.length - (x + 1), by omega, x + 1, by omega, rfl, by simp [go_sem], ?_⟩
        rw [hdt]
        simpa using k8.tail
      · obtain rfl := hdd rfl
        obtain ⟨h8, e8, n8, k9⟩ := k8.b2.map_put txEnc Tryd.underlying39 (x := yp) (v := true) (by omega) hdm hdk (fun p hp => (hdl p hp).1)
        refine awpD_restR (by rfl) (by simp [go_sem, c8, hlk]; exact ⟨rfl, rfl, rfl⟩) ?_; try dsimp only [thn, inBlk]
        (repeat' first
          | refine AWP.seq ?_
          | refine AWP.block ?_
          | (refine AWP.skip ?_; try dsimp only [thn, inBlk])
          | (refine AWP.exit ?_; try simp only [thn, inBlk, if_true, reduceIte, Nat.reduceEqDiff])
          | (refine AWP.ret ?_; try dsimp only [thn, inBlk])
          | (refine AWP.condT ?_ ?_; (focus (simp [go_sem, c8, w1, e8]; done)))
          | (refine AWP.condF ?_ ?_; (focus (simp [go_sem, c8, w1, e8]; done)))
          | (apply AWP.rE; (focus (simp [go_sem, c8, w1, e8]; exact ⟨rfl, rfl⟩)); try dsimp only [thn, inBlk])
          | fail)
        refine ⟨N.length - (x + 1), by omega, x + 1, by omega, rfl, by simp [go_sem], ?_⟩
        rw [hdt]
        exact k9.d1.b1
end L19
