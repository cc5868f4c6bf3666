import Derived.Test.YtaieafdiomknoaaDoorL22y
open Go Ab Go.Proofs
namespace L22
set_option autoImplicit false
set_option linter.unusedSimpArgs false
set_option linter.unusedVariables false

theorem evp_small : ∀ (l : List UInt8) (s : Rd) (p : Nat), s.pd.length ≤ 3000 → (evp s p l).length ≤ l.length ∧ (∀ x ∈ evp s p l, x.1.2.length ≤ 3001) ∧ (fin s l).pd.length ≤ 3000
  | [], s, p, h => ⟨by simp [evp], by simp [evp], h⟩
  | c :: l, s, p, h => by
    have hI : RI 1 (takeR (clr s) c) := RI.take (n := 0) (s := clr s) ⟨by simp [clr], by simp [clr], h⟩
    rw [evp, fin]
    split
    · obtain ⟨i1, i2, i3⟩ := evp_small l (takeR (clr s) c) (p + 1) hI.pd
      have := hI.out
      refine ⟨by simp; omega, fun x hx => ?_, i3⟩
      rcases List.mem_append.1 hx with hx | hx
      · obtain ⟨y, hy, rfl⟩ := List.mem_map.1 hx
        have := hI.bod y hy; simp only; omega
      · exact i2 x hx
    · exact ⟨by simp, by simp, h⟩
theorem feedR_RI {s : Rd} {l : List UInt8} (h : s.pd.length ≤ 3000) : RI l.length (feedR s l) := by
  have hI : RI (0 + l.length) (feedL (clr s) l) := RI.feedL (n := 0) (s := clr s) ⟨by simp [clr], by simp [clr], h⟩
  rw [Nat.zero_add] at hI
  unfold feedR
  split
  · exact hI
  · exact ⟨by simp [clr], by simp [clr], hI.pd⟩
theorem br_nil {h : AHeap} : BR pre 4 h (.slice none 0 0) ([] : List Tl) := ⟨[], rfl, .inl ⟨rfl, rfl, rfl⟩, fun j f p hf _ => by simp at hf⟩

/-- A part's data, to be turned; how it is read meanwhile; and the parts again. -/
theorem body_at {O : Old} {h : AHeap} {R : List Chunk} {v : Value} {fs : List Tl} (k : Own O h (tels v fs :: R)) {j : Nat} (hj : j < fs.length) :
    ∃ (a : Option Addr) (cap : Nat) (R' : List Chunk), Own O h (ob 5 (.slice a fs[j].2.length cap) fs[j].2 :: R') ∧
      (∀ hh, Own O hh R' → ∃ i off c e' sz' ti ro, indexAddrP Tryd.prog 33 v (.int .i64 j) = some (.pointer (some ⟨i, off, none⟩)) ∧ hh.obj i = some (.row c e' sz' ti ro) ∧ c[off + 3]? = some (.slice a fs[j].2.length cap)) ∧
      ∀ h' bs', bs'.length = fs[j].2.length → Own O h' (ob 5 (.slice a fs[j].2.length cap) bs' :: R') → Own O h' (tels v (fs.set j (fs[j].1, bs')) :: R) := by
  obtain ⟨ac, R', hac, hb⟩ := Own.brecs_body k hj
  have hja : j < ac.length := by omega
  obtain ⟨k1, k2, k3⟩ := hb ac[j] (List.getElem?_eq_getElem hja)
  refine ⟨ac[j].1, ac[j].2, R', k1, fun hh kk => ?_, k3⟩
  obtain ⟨i, off, c, e', sz', ti, ro, q1, q2, q3, q4, q5⟩ := (k2 hh kk).record (P := Tryd.prog) (t := 33) Tryd.underlying33 tsz24 (rcells_all (pre := pre) (fs := fs) (sz := 4) (fun x => rfl) ac) (rcells_length hac) hj (kd := .i64)
  have e1 : (rcells pre fs ac)[j]'(by rw [rcells_length hac]; exact hj) = pre fs[j].1 ++ [.slice ac[j].1 fs[j].2.length ac[j].2] := by simp [rcells, rec1]
  rw [e1] at q5
  exact ⟨i, off, c, e', sz', ti, ro, q1, q2, q5 3 _ rfl⟩

set_option maxHeartbeats 8000000 in
theorem feeds_calls {h : AHeap} {v : Value} {ps : List (List UInt8)} (hb : h.base = h.next) (hp : Pcs h v ps) :
    ACalls Tryd.prog 4 #[v] h fun r _ => r = .bool true := by
  refine Own.of_wf fun k0 => ?_
  obtain ⟨va, vc, rfl⟩ := hp.val
  refine ACalls.of_awp (args := [.slice va ps.length vc]) (n := 107) Tryd.func4 rfl rfl (by show 1 ≤ 107; omega) ?_
  (repeat' first
    | refine AWP.seq ?_
    | refine AWP.block ?_
    | (refine AWP.skip ?_; try dsimp only [thn, inBlk])
    | (refine AWP.exit ?_; try simp only [thn, inBlk, if_true, reduceIte, Nat.reduceEqDiff])
    | (refine AWP.ret ?_; try dsimp only [thn, inBlk])
    | (refine AWP.condT ?_ ?_; (focus (simp [go_sem]; done)))
    | (refine AWP.condF ?_ ?_; (focus (simp [go_sem]; done)))
    | (apply AWP.rE; (focus (simp [go_sem]; exact ⟨rfl, rfl⟩)); try dsimp only [thn, inBlk])
    | fail)
  refine AWP.callE (by simp [go_sem]; exact ⟨rfl, rfl, rfl, rfl, rfl⟩) (by kernel_rfl) ?_
  refine (speaks_calls k0).mono ?_
  rintro r h1 ⟨rfl, k1⟩
  refine awpL_restE (by simp [go_sem]; exact ⟨rfl, rfl⟩) ?_; try dsimp only [thn, inBlk]
  by_cases h40 : 40 < ps.length
  · have h40' : (40 : Int) < ps.length := by omega
    (repeat' first
      | refine AWP.seq ?_
      | refine AWP.block ?_
      | (refine AWP.skip ?_; try dsimp only [thn, inBlk])
      | (refine AWP.exit ?_; try simp only [thn, inBlk, if_true, reduceIte, Nat.reduceEqDiff])
      | (refine AWP.ret ?_; try dsimp only [thn, inBlk])
      | (refine AWP.condT ?_ ?_; (focus (simp [go_sem, h40']; done)))
      | (refine AWP.condF ?_ ?_; (focus (simp [go_sem, h40']; done)))
      | (apply AWP.rE; (focus (simp [go_sem, h40']; exact ⟨rfl, rfl⟩)); try dsimp only [thn, inBlk])
      | fail)
    simp [bodyQ, thn, inBlk, resA, resV, go_sem]
  have h40' : ¬ (40 : Int) < ps.length := by omega
  (repeat' first
    | refine AWP.seq ?_
    | refine AWP.block ?_
    | (refine AWP.skip ?_; try dsimp only [thn, inBlk])
    | (refine AWP.exit ?_; try simp only [thn, inBlk, if_true, reduceIte, Nat.reduceEqDiff])
    | (refine AWP.ret ?_; try dsimp only [thn, inBlk])
    | (refine AWP.condT ?_ ?_; (focus (simp [go_sem, h40']; done)))
    | (refine AWP.condF ?_ ?_; (focus (simp [go_sem, h40']; done)))
    | (apply AWP.rE; (focus (simp [go_sem, h40']; exact ⟨rfl, rfl⟩)); try dsimp only [thn, inBlk])
    | fail)
  refine AWP.callE (by simp [go_sem]; exact ⟨rfl, rfl, rfl, rfl, rfl⟩) (by kernel_rfl) ?_
  refine (new_calls k1).mono ?_
  rintro r h2 ⟨i, rfl, k2⟩
  refine awpL_restE (by simp [go_sem]; exact ⟨rfl, rfl⟩) ?_; try dsimp only [thn, inBlk]
  (repeat' first
    | refine AWP.seq ?_
    | refine AWP.block ?_
    | (refine AWP.skip ?_; try dsimp only [thn, inBlk])
    | (refine AWP.exit ?_; try simp only [thn, inBlk, if_true, reduceIte, Nat.reduceEqDiff])
    | (refine AWP.ret ?_; try dsimp only [thn, inBlk])
    | (refine AWP.condT ?_ ?_; (focus (simp [go_sem]; done)))
    | (refine AWP.condF ?_ ?_; (focus (simp [go_sem]; done)))
    | (apply AWP.rE; (focus (simp [go_sem]; exact ⟨rfl, rfl⟩)); try dsimp only [thn, inBlk])
    | fail)
  refine AWP.loopR [3, 4, 5, 26, 27, 28] (fun m s h' => ∃ (j : Nat) (all : List UInt8) (S : Rd) (aw : Option Addr) (cw : Nat), j ≤ ps.length ∧ m = ps.length - j ∧
    s = ⟨107, [(3, ptr i), (4, .slice aw all.length cw), (5, .int .i64 (fin rd0 all).br), (26, .slice va ps.length vc), (27, .int .i64 ps.length), (28, .int .i64 j)]⟩ ∧
    clr S = fin rd0 all ∧ all.length ≤ 14000 ∧ Own h.asOld h' [rdz i S, ob 5 (.slice aw all.length cw) all]) ?_ ?_
  · exact ⟨_, 0, [], rd0, some ⟨h2.next, 0, none⟩, 0, by omega, rfl, by simp [go_sem]; rfl, rfl, by simp,
      (((to_rdz k2).push (.row [] 5 1 true false)).row_any (n := 0) rfl : Own _ _ (ob 5 (.slice (some ⟨h2.next, 0, none⟩) 0 0) [] :: _)).b1⟩
  rintro m s h' ⟨j, all, S, aw, cw, hj, rfl, rfl, hS, hall, kt⟩
  by_cases hj2 : j < ps.length
  rotate_left
  · have hj3 : ¬ (j : Int) < ps.length := by omega
    (repeat' first
      | refine AWP.seq ?_
      | refine AWP.block ?_
      | (refine AWP.skip ?_; try dsimp only [thn, inBlk])
      | (refine AWP.exit ?_; try simp only [thn, inBlk, if_true, reduceIte, Nat.reduceEqDiff])
      | (refine AWP.ret ?_; try dsimp only [thn, inBlk])
      | (refine AWP.condT ?_ ?_; (focus (simp [go_sem, hj3]; done)))
      | (refine AWP.condF ?_ ?_; (focus (simp [go_sem, hj3]; done)))
      | (apply AWP.rE; (focus (simp [go_sem, hj3]; exact ⟨rfl, rfl⟩)); try dsimp only [thn, inBlk])
      | fail)
    simp [bodyQ, thn, inBlk, resA, resV, go_sem]
  have hj3 : (j : Int) < ps.length := by omega
  have wj : IntKind.i64.wrap ((j : Int) + 1) = ((j + 1 : Nat) : Int) := by rw [wI64 (by omega) (by omega)]; omega
  obtain ⟨cs, sl, hcs⟩ := hp
  obtain ⟨pa, pc, ee, bb⟩ := hcs j hj2
  obtain ⟨bi, bo, c, e', sz, ti, ro, q1, q2, q3⟩ := (sl.of_old hb kt).at1 (P := Tryd.prog) (t := 38) Tryd.underlying38 tsz22 hj2 ee (kd := .i64)
  have hx : ∀ {hh : AHeap} {L : List Chunk}, Own h.asOld hh L → Bytes hh (.slice pa ps[j].length pc) ps[j] := fun o => bb.of_old hb o
  generalize ps[j] = p at *
  by_cases h4 : 4000 < p.length
  · have h4' : (4000 : Int) < p.length := by omega
    (repeat' first
      | refine AWP.seq ?_
      | refine AWP.block ?_
      | (refine AWP.skip ?_; try dsimp only [thn, inBlk])
      | (refine AWP.exit ?_; try simp only [thn, inBlk, if_true, reduceIte, Nat.reduceEqDiff])
      | (refine AWP.ret ?_; try dsimp only [thn, inBlk])
      | (refine AWP.condT ?_ ?_; (focus (simp [go_sem, hj3, q1, q2, q3, h4']; done)))
      | (refine AWP.condF ?_ ?_; (focus (simp [go_sem, hj3, q1, q2, q3, h4']; done)))
      | (apply AWP.rE; (focus (simp [go_sem, hj3, q1, q2, q3, h4']; exact ⟨rfl, rfl⟩)); try dsimp only [thn, inBlk])
      | fail)
    simp [bodyQ, thn, inBlk, resA, resV, go_sem]
  have h4' : ¬ (4000 : Int) < p.length := by omega
  by_cases h9 : 9000 < all.length
  · have h9' : (9000 : Int) < all.length := by omega
    (repeat' first
      | refine AWP.seq ?_
      | refine AWP.block ?_
      | (refine AWP.skip ?_; try dsimp only [thn, inBlk])
      | (refine AWP.exit ?_; try simp only [thn, inBlk, if_true, reduceIte, Nat.reduceEqDiff])
      | (refine AWP.ret ?_; try dsimp only [thn, inBlk])
      | (refine AWP.condT ?_ ?_; (focus (simp [go_sem, hj3, q1, q2, q3, h4', h9']; done)))
      | (refine AWP.condF ?_ ?_; (focus (simp [go_sem, hj3, q1, q2, q3, h4', h9']; done)))
      | (apply AWP.rE; (focus (simp [go_sem, hj3, q1, q2, q3, h4', h9']; exact ⟨rfl, rfl⟩)); try dsimp only [thn, inBlk])
      | fail)
    simp [bodyQ, thn, inBlk, resA, resV, go_sem]
  have h9' : ¬ (9000 : Int) < all.length := by omega
  obtain ⟨a1, c1, h4, e1, k4⟩ := kt.copy (P := Tryd.prog) (t := 22) (xt := 22) (i := h'.next) Tryd.underlying22 tsz5 tby5 tz5 nI22 (fun _ o => hx o) (by omega) rfl
  (repeat' first
    | refine AWP.seq ?_
    | refine AWP.block ?_
    | (refine AWP.skip ?_; try dsimp only [thn, inBlk])
    | (refine AWP.exit ?_; try simp only [thn, inBlk, if_true, reduceIte, Nat.reduceEqDiff])
    | (refine AWP.ret ?_; try dsimp only [thn, inBlk])
    | (refine AWP.condT ?_ ?_; (focus (simp [go_sem, hj3, q1, q2, q3, h4', h9', e1]; done)))
    | (refine AWP.condF ?_ ?_; (focus (simp [go_sem, hj3, q1, q2, q3, h4', h9', e1]; done)))
    | (apply AWP.rE; (focus (simp [go_sem, hj3, q1, q2, q3, h4', h9', e1]; exact ⟨rfl, rfl⟩)); try dsimp only [thn, inBlk])
    | fail)
  refine AWP.callE (by simp [go_sem]; exact ⟨rfl, rfl, rfl, rfl, rfl⟩) (by kernel_rfl) ?_
  have hsm := evp_small all rd0 0 (by simp [rd0])
  have hSpd : S.pd.length ≤ 3000 := by
    have : S.pd = (fin rd0 all).pd := by rw [← hS]; rfl
    rw [this]; exact hsm.2.2
  have hSpk : ¬ S.pk = 1 := by
    have : S.pk = (fin rd0 all).pk := by rw [← hS]; rfl
    rw [this]; exact fin_pk _ _ (by simp [rd0])
  refine (feed_calls (bs := p) k4.b1 (fun hh kk => kk.ob_bytes) (by omega) hSpd).mono ?_
  rintro v h5 ⟨a2, c2, rfl, k5⟩
  obtain ⟨A, hA⟩ : ∃ A, A = all ++ p := ⟨_, rfl⟩
  have hAl : A.length = all.length + p.length := by rw [hA, List.length_append]
  have hfin : fin S p = fin rd0 A := by rw [hA, fin_append, ← hS, fin_clr]
  have hFbr : (feedR S p).br = (fin rd0 A).br := by rw [feedR_br hSpk, hfin]
  have hFclr : clr (feedR S p) = fin rd0 A := by rw [feedR_clr hSpk, hfin]
  have hbtw : (evp rd0 0 A).filter (fun x => decide (all.length < x.2) && decide (x.2 ≤ A.length)) = evp (fin rd0 all) all.length p := by rw [hAl, hA]; exact evp_between
  have hFout : (feedR S p).out = if (fin rd0 A).br = 0 then putL (((evp rd0 0 A).filter (fun x => decide (all.length < x.2) && decide (x.2 ≤ A.length))).map Prod.fst) else [] := by
    rw [feedR_out all.length hSpk, hfin, hbtw, ← hS, evp_clr]
  have hstick : ¬ (fin rd0 all).br = 0 → fin rd0 A = fin rd0 all := fun hn => by rw [hA, fin_append, fin_stop hn, clr_fin]
  have hFI := feedR_RI (s := S) (l := p) hSpd
  obtain ⟨F, hF⟩ : ∃ F, F = feedR S p := ⟨_, rfl⟩
  rw [← hF] at k5 hFbr hFclr hFout hFI ⊢
  rw [hFbr]
  have hFl := hFI.out
  obtain ⟨a5, c5, h5, e5, k7⟩ := k5.b3.appB (P := Tryd.prog) (t := 22) (xt := 22) Tryd.underlying22 tsz5 tby5 tz5 nI22 (hx k5.b3).src (by omega)
  rw [← hAl] at e5 k7
  rw [← hA] at k7
  refine awpL_restE (by simp [go_sem]; exact ⟨rfl, rfl⟩) ?_; try dsimp only [thn, inBlk]
  (repeat' first
    | refine AWP.seq ?_
    | refine AWP.block ?_
    | (refine AWP.skip ?_; try dsimp only [thn, inBlk])
    | (refine AWP.exit ?_; try simp only [thn, inBlk, if_true, reduceIte, Nat.reduceEqDiff])
    | (refine AWP.ret ?_; try dsimp only [thn, inBlk])
    | (refine AWP.condT ?_ ?_; (focus (simp [go_sem, e5]; done)))
    | (refine AWP.condF ?_ ?_; (focus (simp [go_sem, e5]; done)))
    | (apply AWP.rE; (focus (simp [go_sem, e5]; exact ⟨rfl, rfl⟩)); try dsimp only [thn, inBlk])
    | fail)
  refine AWP.callE (by simp [go_sem]; exact ⟨rfl, rfl, rfl, rfl, rfl⟩) (by kernel_rfl) ?_
  refine (read_calls (bs := A) k7 (fun hh kk => kk.ob_bytes) (by omega)).mono ?_
  rintro v h6 ⟨a6, c6, rfl, k8⟩
  have hsm2 := evp_small A rd0 0 (by simp [rd0])
  have hpos2 := evp_pos A rd0 0
  generalize evp rd0 0 A = xs at k8 hsm2 hpos2 hFout hbtw ⊢
  generalize hB0 : (fin rd0 all).br = B0 at hstick ⊢
  generalize hB : (fin rd0 A).br = B at hFout hFbr ⊢
  have s1 := k8.b4.ob_bytes.str (P := Tryd.prog) (t := 22) (e := 5) (u := 9) Tryd.underlying22 Tryd.underlying5 Tryd.underlying9
  have s2 := (hx k8).str (P := Tryd.prog) (t := 22) (e := 5) (u := 9) Tryd.underlying22 Tryd.underlying5 Tryd.underlying9
  refine awpL_restE (by simp [go_sem]; exact ⟨rfl, rfl⟩) ?_; try dsimp only [thn, inBlk]
  by_cases hB1 : B = 0
  · have hB0' : B0 = 0 := by
      by_cases hn : B0 = 0
      · exact hn
      · rw [hstick hn, hB0] at hB; exact absurd (hB.trans hB1) hn
    subst hB1
    subst hB0'
    rw [if_pos rfl] at hFout
    (repeat' first
      | refine AWP.seq ?_
      | refine AWP.block ?_
      | (refine AWP.skip ?_; try dsimp only [thn, inBlk])
      | (refine AWP.exit ?_; try simp only [thn, inBlk, if_true, reduceIte, Nat.reduceEqDiff])
      | (refine AWP.ret ?_; try dsimp only [thn, inBlk])
      | (refine AWP.condT ?_ ?_; (focus (simp [go_sem, s1, s2,]; done)))
      | (refine AWP.condF ?_ ?_; (focus (simp [go_sem, s1, s2,]; done)))
      | (apply AWP.rE; (focus (simp [go_sem, s1, s2,]; exact ⟨rfl, rfl⟩)); try dsimp only [thn, inBlk])
      | fail)
    refine AWP.callE (by simp [go_sem]; exact ⟨rfl, rfl, rfl, rfl, rfl⟩) (by kernel_rfl) ?_
    refine (between_calls (lo := all.length) (hi := A.length) k8 (by omega) (fun x hx => ⟨by have := hsm2.2.1 x hx; omega, by have := hpos2 x hx; omega⟩)).mono ?_
    rintro v h7 ⟨a7, c7, L, rfl, k9, hbr⟩
    refine awpL_restE (by simp [go_sem]; exact ⟨rfl, rfl⟩) ?_; try dsimp only [thn, inBlk]
    (repeat' first
      | refine AWP.seq ?_
      | refine AWP.block ?_
      | (refine AWP.skip ?_; try dsimp only [thn, inBlk])
      | (refine AWP.exit ?_; try simp only [thn, inBlk, if_true, reduceIte, Nat.reduceEqDiff])
      | (refine AWP.ret ?_; try dsimp only [thn, inBlk])
      | (refine AWP.condT ?_ ?_; (focus (simp [go_sem]; done)))
      | (refine AWP.condF ?_ ?_; (focus (simp [go_sem]; done)))
      | (apply AWP.rE; (focus (simp [go_sem]; exact ⟨rfl, rfl⟩)); try dsimp only [thn, inBlk])
      | fail)
    refine AWP.callE (by simp [go_sem]; exact ⟨rfl, rfl, rfl, rfl, rfl⟩) (by kernel_rfl) ?_
    refine (same_calls (fs := F.out) (gs := _) (k9.rest.b1).brecs_read hbr (by omega)).mono ?_
    rintro v h8 ⟨rfl, rfl⟩
    rw [show decide (F.out = _) = true by rw [decide_eq_true_eq, hFout]]
    refine awpL_restE (by simp [go_sem]; exact ⟨rfl, rfl⟩) ?_; try dsimp only [thn, inBlk]
    (repeat' first
      | refine AWP.seq ?_
      | refine AWP.block ?_
      | (refine AWP.skip ?_; try dsimp only [thn, inBlk])
      | (refine AWP.exit ?_; try simp only [thn, inBlk, if_true, reduceIte, Nat.reduceEqDiff])
      | (refine AWP.ret ?_; try dsimp only [thn, inBlk])
      | (refine AWP.condT ?_ ?_; (focus (simp [go_sem]; done)))
      | (refine AWP.condF ?_ ?_; (focus (simp [go_sem]; done)))
      | (apply AWP.rE; (focus (simp [go_sem]; exact ⟨rfl, rfl⟩)); try dsimp only [thn, inBlk])
      | fail)
    have k10 := k9.rest.b1.d3.b2
    have hbod : ∀ f ∈ F.out, f.2.length ≤ 10000 := fun f hf => by have := hFI.bod f hf; omega
    generalize hN : F.out.length = N at k10 hFl ⊢
    refine AWP.loopR [3, 4, 5, 9, 26, 27, 28, 84, 85] (fun m s h' => ∃ (d : Nat) (Gs : List Tl), d ≤ N ∧ Gs.length = N ∧ (∀ f ∈ Gs, f.2.length ≤ 10000) ∧ m = N - d ∧
      s = ⟨107, [(3, ptr i), (4, .slice a5 A.length c5), (5, .int .i64 0), (9, .slice a2 N c2), (26, .slice va ps.length vc), (27, .int .i64 ps.length), (28, .int .i64 j), (84, .int .i64 N), (85, .int .i64 d)]⟩ ∧
      Own h.asOld h' [tels (.slice a2 N c2) Gs, rdz i F, ob 5 (.slice a5 A.length c5) A]) ?_ ?_
    · exact ⟨_, 0, F.out, by omega, hN, hbod, rfl, by simp [go_sem, hN], k10.b1⟩
    rintro m s hC ⟨d, Gs, hd, hGl, hGs, rfl, rfl, kd⟩
    by_cases hd2 : d < N
    rotate_left
    · have hd3 : ¬ (d : Int) < N := by omega
      (repeat' first
        | refine AWP.seq ?_
        | refine AWP.block ?_
        | (refine AWP.skip ?_; try dsimp only [thn, inBlk])
        | (refine AWP.exit ?_; try simp only [thn, inBlk, if_true, reduceIte, Nat.reduceEqDiff])
        | (refine AWP.ret ?_; try dsimp only [thn, inBlk])
        | (refine AWP.condT ?_ ?_; (focus (simp [go_sem, hd3, wj]; done)))
        | (refine AWP.condF ?_ ?_; (focus (simp [go_sem, hd3, wj]; done)))
        | (apply AWP.rE; (focus (simp [go_sem, hd3, wj]; exact ⟨rfl, rfl⟩)); try dsimp only [thn, inBlk])
        | fail)
      exact ⟨ps.length - (j + 1), by omega, j + 1, A, F, a5, c5, by omega, rfl, by simp [go_sem, hB], hFclr, by omega, kd.tail⟩
    have hd3 : (d : Int) < N := by omega
    have wd : IntKind.i64.wrap ((d : Int) + 1) = d + 1 := wI64 (by omega) (by omega)
    obtain ⟨ba, bc, R', kb, hrd, hback⟩ := body_at kd (j := d) (by omega)
    have hgl : (Gs[d]'(by omega)).2.length ≤ 10000 := hGs _ (List.getElem_mem _)
    obtain ⟨i1, o1, cc1, ee1, ss1, tt1, rr1, p1, p2, p3⟩ := hrd _ kb.tail
    generalize hn9 : (Gs[d]'(by omega)).2.length = n at *
    (repeat' first
      | refine AWP.seq ?_
      | refine AWP.block ?_
      | (refine AWP.skip ?_; try dsimp only [thn, inBlk])
      | (refine AWP.exit ?_; try simp only [thn, inBlk, if_true, reduceIte, Nat.reduceEqDiff])
      | (refine AWP.ret ?_; try dsimp only [thn, inBlk])
      | (refine AWP.condT ?_ ?_; (focus (simp [go_sem, hd3, p1, p2, p3]; done)))
      | (refine AWP.condF ?_ ?_; (focus (simp [go_sem, hd3, p1, p2, p3]; done)))
      | (apply AWP.rE; (focus (simp [go_sem, hd3, p1, p2, p3]; exact ⟨rfl, rfl⟩)); try dsimp only [thn, inBlk])
      | fail)
    refine AWP.loopR [3, 4, 5, 9, 15, 26, 27, 28, 84, 85, 93, 94] (fun m s h' => ∃ (q : Nat) (bs' : List UInt8), q ≤ n ∧ bs'.length = n ∧ m = n - q ∧
      s = ⟨107, [(3, ptr i), (4, .slice a5 A.length c5), (5, .int .i64 0), (9, .slice a2 N c2), (15, .int .i64 d), (26, .slice va ps.length vc), (27, .int .i64 ps.length), (28, .int .i64 j), (84, .int .i64 N), (85, .int .i64 d), (93, .int .i64 n), (94, .int .i64 q)]⟩ ∧
      Own h.asOld h' (ob 5 (.slice ba n bc) bs' :: R')) ?_ ?_
    · exact ⟨_, 0, _, by omega, hn9, rfl, by simp [go_sem], kb⟩
    rintro m s hD ⟨q, bs', hq, hbl, rfl, rfl, kq⟩
    by_cases hq2 : q < n
    rotate_left
    · have hq3 : ¬ (q : Int) < n := by omega
      (repeat' first
        | refine AWP.seq ?_
        | refine AWP.block ?_
        | (refine AWP.skip ?_; try dsimp only [thn, inBlk])
        | (refine AWP.exit ?_; try simp only [thn, inBlk, if_true, reduceIte, Nat.reduceEqDiff])
        | (refine AWP.ret ?_; try dsimp only [thn, inBlk])
        | (refine AWP.condT ?_ ?_; (focus (simp [go_sem, hq3, wd]; done)))
        | (refine AWP.condF ?_ ?_; (focus (simp [go_sem, hq3, wd]; done)))
        | (apply AWP.rE; (focus (simp [go_sem, hq3, wd]; exact ⟨rfl, rfl⟩)); try dsimp only [thn, inBlk])
        | fail)
      refine ⟨N - (d + 1), by omega, d + 1, Gs.set d ((Gs[d]'(by omega)).1, bs'), by omega, by simp [hGl], fun f hf => ?_, rfl, by simp [go_sem], hback _ _ hbl kq⟩
      rcases List.mem_or_eq_of_mem_set hf with hf | rfl
      · exact hGs f hf
      · simp only; omega
    have hq3 : (q : Int) < n := by omega
    have wq : IntKind.i64.wrap ((q : Int) + 1) = q + 1 := wI64 (by omega) (by omega)
    obtain ⟨i2, o2, cc2, ee2, ss2, tt2, rr2, p4, p5, p6⟩ := hrd _ kq.tail
    obtain ⟨xi, xo, xc, xt, y1, y2, y3, kq2⟩ := kq.ob_write (P := Tryd.prog) (t := 22) Tryd.underlying22 tsz5 (j := q) (by omega) 238 (kd := .i64)
    have y3 : xo + 1 ≤ xc.length := y3
    (repeat' first
      | refine AWP.seq ?_
      | refine AWP.block ?_
      | (refine AWP.skip ?_; try dsimp only [thn, inBlk])
      | (refine AWP.exit ?_; try simp only [thn, inBlk, if_true, reduceIte, Nat.reduceEqDiff])
      | (refine AWP.ret ?_; try dsimp only [thn, inBlk])
      | (refine AWP.condT ?_ ?_; (focus (simp [go_sem, hq3, p4, p5, p6, y1, y2, y3, wq]; done)))
      | (refine AWP.condF ?_ ?_; (focus (simp [go_sem, hq3, p4, p5, p6, y1, y2, y3, wq]; done)))
      | (apply AWP.rE; (focus (simp [go_sem, hq3, p4, p5, p6, y1, y2, y3, wq]; exact ⟨rfl, rfl⟩)); try dsimp only [thn, inBlk])
      | fail)
    exact ⟨n - (q + 1), by omega, q + 1, bs'.set q 238, by omega, by simp [hbl], rfl, by simp [go_sem], kq2⟩
  · rw [if_neg hB1] at hFout
    have hB1' : (B != 0) = true := by simpa using hB1
    by_cases hn : B0 = 0
    · subst hn
      (repeat' first
        | refine AWP.seq ?_
        | refine AWP.block ?_
        | (refine AWP.skip ?_; try dsimp only [thn, inBlk])
        | (refine AWP.exit ?_; try simp only [thn, inBlk, if_true, reduceIte, Nat.reduceEqDiff])
        | (refine AWP.ret ?_; try dsimp only [thn, inBlk])
        | (refine AWP.condT ?_ ?_; (focus (simp [go_sem, s1, s2, hB1']; done)))
        | (refine AWP.condF ?_ ?_; (focus (simp [go_sem, s1, s2, hB1']; done)))
        | (apply AWP.rE; (focus (simp [go_sem, s1, s2, hB1']; exact ⟨rfl, rfl⟩)); try dsimp only [thn, inBlk])
        | fail)
      refine AWP.callE (by simp [go_sem]; exact ⟨rfl, rfl, rfl, rfl, rfl⟩) (by kernel_rfl) ?_
      refine (between_calls (lo := all.length) (hi := A.length) k8 (by omega) (fun x hx => ⟨by have := hsm2.2.1 x hx; omega, by have := hpos2 x hx; omega⟩)).mono ?_
      rintro v h7 ⟨a7, c7, L, rfl, k9, hbr⟩
      refine awpL_restE (by simp [go_sem]; exact ⟨rfl, rfl⟩) ?_; try dsimp only [thn, inBlk]
      (repeat' first
        | refine AWP.seq ?_
        | refine AWP.block ?_
        | (refine AWP.skip ?_; try dsimp only [thn, inBlk])
        | (refine AWP.exit ?_; try simp only [thn, inBlk, if_true, reduceIte, Nat.reduceEqDiff])
        | (refine AWP.ret ?_; try dsimp only [thn, inBlk])
        | (refine AWP.condT ?_ ?_; (focus (simp [go_sem, hB1']; done)))
        | (refine AWP.condF ?_ ?_; (focus (simp [go_sem, hB1']; done)))
        | (apply AWP.rE; (focus (simp [go_sem, hB1']; exact ⟨rfl, rfl⟩)); try dsimp only [thn, inBlk])
        | fail)
      refine AWP.callE (by simp [go_sem]; exact ⟨rfl, rfl, rfl, rfl, rfl⟩) (by kernel_rfl) ?_
      refine (same_calls (fs := F.out) (gs := []) (k9.rest.b1).brecs_read br_nil (by omega)).mono ?_
      rintro v h8 ⟨rfl, rfl⟩
      rw [show decide (F.out = []) = true by rw [decide_eq_true_eq, hFout]]
      refine awpL_restE (by simp [go_sem]; exact ⟨rfl, rfl⟩) ?_; try dsimp only [thn, inBlk]
      (repeat' first
        | refine AWP.seq ?_
        | refine AWP.block ?_
        | (refine AWP.skip ?_; try dsimp only [thn, inBlk])
        | (refine AWP.exit ?_; try simp only [thn, inBlk, if_true, reduceIte, Nat.reduceEqDiff])
        | (refine AWP.ret ?_; try dsimp only [thn, inBlk])
        | (refine AWP.condT ?_ ?_; (focus (simp [go_sem]; done)))
        | (refine AWP.condF ?_ ?_; (focus (simp [go_sem]; done)))
        | (apply AWP.rE; (focus (simp [go_sem]; exact ⟨rfl, rfl⟩)); try dsimp only [thn, inBlk])
        | fail)
      have k10 := k9.rest.b1.d3.b2
      have hbod : ∀ f ∈ F.out, f.2.length ≤ 10000 := fun f hf => by have := hFI.bod f hf; omega
      generalize hN : F.out.length = N at k10 hFl ⊢
      refine AWP.loopR [3, 4, 5, 9, 26, 27, 28, 84, 85] (fun m s h' => ∃ (d : Nat) (Gs : List Tl), d ≤ N ∧ Gs.length = N ∧ (∀ f ∈ Gs, f.2.length ≤ 10000) ∧ m = N - d ∧
        s = ⟨107, [(3, ptr i), (4, .slice a5 A.length c5), (5, .int .i64 B), (9, .slice a2 N c2), (26, .slice va ps.length vc), (27, .int .i64 ps.length), (28, .int .i64 j), (84, .int .i64 N), (85, .int .i64 d)]⟩ ∧
        Own h.asOld h' [tels (.slice a2 N c2) Gs, rdz i F, ob 5 (.slice a5 A.length c5) A]) ?_ ?_
      · exact ⟨_, 0, F.out, by omega, hN, hbod, rfl, by simp [go_sem, hN], k10.b1⟩
      rintro m s hC ⟨d, Gs, hd, hGl, hGs, rfl, rfl, kd⟩
      by_cases hd2 : d < N
      rotate_left
      · have hd3 : ¬ (d : Int) < N := by omega
        (repeat' first
          | refine AWP.seq ?_
          | refine AWP.block ?_
          | (refine AWP.skip ?_; try dsimp only [thn, inBlk])
          | (refine AWP.exit ?_; try simp only [thn, inBlk, if_true, reduceIte, Nat.reduceEqDiff])
          | (refine AWP.ret ?_; try dsimp only [thn, inBlk])
          | (refine AWP.condT ?_ ?_; (focus (simp [go_sem, hd3, wj]; done)))
          | (refine AWP.condF ?_ ?_; (focus (simp [go_sem, hd3, wj]; done)))
          | (apply AWP.rE; (focus (simp [go_sem, hd3, wj]; exact ⟨rfl, rfl⟩)); try dsimp only [thn, inBlk])
          | fail)
        exact ⟨ps.length - (j + 1), by omega, j + 1, A, F, a5, c5, by omega, rfl, by simp [go_sem, hB], hFclr, by omega, kd.tail⟩
      have hd3 : (d : Int) < N := by omega
      have wd : IntKind.i64.wrap ((d : Int) + 1) = d + 1 := wI64 (by omega) (by omega)
      obtain ⟨ba, bc, R', kb, hrd, hback⟩ := body_at kd (j := d) (by omega)
      have hgl : (Gs[d]'(by omega)).2.length ≤ 10000 := hGs _ (List.getElem_mem _)
      obtain ⟨i1, o1, cc1, ee1, ss1, tt1, rr1, p1, p2, p3⟩ := hrd _ kb.tail
      generalize hn9 : (Gs[d]'(by omega)).2.length = n at *
      (repeat' first
        | refine AWP.seq ?_
        | refine AWP.block ?_
        | (refine AWP.skip ?_; try dsimp only [thn, inBlk])
        | (refine AWP.exit ?_; try simp only [thn, inBlk, if_true, reduceIte, Nat.reduceEqDiff])
        | (refine AWP.ret ?_; try dsimp only [thn, inBlk])
        | (refine AWP.condT ?_ ?_; (focus (simp [go_sem, hd3, p1, p2, p3]; done)))
        | (refine AWP.condF ?_ ?_; (focus (simp [go_sem, hd3, p1, p2, p3]; done)))
        | (apply AWP.rE; (focus (simp [go_sem, hd3, p1, p2, p3]; exact ⟨rfl, rfl⟩)); try dsimp only [thn, inBlk])
        | fail)
      refine AWP.loopR [3, 4, 5, 9, 15, 26, 27, 28, 84, 85, 93, 94] (fun m s h' => ∃ (q : Nat) (bs' : List UInt8), q ≤ n ∧ bs'.length = n ∧ m = n - q ∧
        s = ⟨107, [(3, ptr i), (4, .slice a5 A.length c5), (5, .int .i64 B), (9, .slice a2 N c2), (15, .int .i64 d), (26, .slice va ps.length vc), (27, .int .i64 ps.length), (28, .int .i64 j), (84, .int .i64 N), (85, .int .i64 d), (93, .int .i64 n), (94, .int .i64 q)]⟩ ∧
        Own h.asOld h' (ob 5 (.slice ba n bc) bs' :: R')) ?_ ?_
      · exact ⟨_, 0, _, by omega, hn9, rfl, by simp [go_sem], kb⟩
      rintro m s hD ⟨q, bs', hq, hbl, rfl, rfl, kq⟩
      by_cases hq2 : q < n
      rotate_left
      · have hq3 : ¬ (q : Int) < n := by omega
        (repeat' first
          | refine AWP.seq ?_
          | refine AWP.block ?_
          | (refine AWP.skip ?_; try dsimp only [thn, inBlk])
          | (refine AWP.exit ?_; try simp only [thn, inBlk, if_true, reduceIte, Nat.reduceEqDiff])
          | (refine AWP.ret ?_; try dsimp only [thn, inBlk])
          | (refine AWP.condT ?_ ?_; (focus (simp [go_sem, hq3, wd]; done)))
          | (refine AWP.condF ?_ ?_; (focus (simp [go_sem, hq3, wd]; done)))
          | (apply AWP.rE; (focus (simp [go_sem, hq3, wd]; exact ⟨rfl, rfl⟩)); try dsimp only [thn, inBlk])
          | fail)
        refine ⟨N - (d + 1), by omega, d + 1, Gs.set d ((Gs[d]'(by omega)).1, bs'), by omega, by simp [hGl], fun f hf => ?_, rfl, by simp [go_sem], hback _ _ hbl kq⟩
        rcases List.mem_or_eq_of_mem_set hf with hf | rfl
        · exact hGs f hf
        · simp only; omega
      have hq3 : (q : Int) < n := by omega
      have wq : IntKind.i64.wrap ((q : Int) + 1) = q + 1 := wI64 (by omega) (by omega)
      obtain ⟨i2, o2, cc2, ee2, ss2, tt2, rr2, p4, p5, p6⟩ := hrd _ kq.tail
      obtain ⟨xi, xo, xc, xt, y1, y2, y3, kq2⟩ := kq.ob_write (P := Tryd.prog) (t := 22) Tryd.underlying22 tsz5 (j := q) (by omega) 238 (kd := .i64)
      have y3 : xo + 1 ≤ xc.length := y3
      (repeat' first
        | refine AWP.seq ?_
        | refine AWP.block ?_
        | (refine AWP.skip ?_; try dsimp only [thn, inBlk])
        | (refine AWP.exit ?_; try simp only [thn, inBlk, if_true, reduceIte, Nat.reduceEqDiff])
        | (refine AWP.ret ?_; try dsimp only [thn, inBlk])
        | (refine AWP.condT ?_ ?_; (focus (simp [go_sem, hq3, p4, p5, p6, y1, y2, y3, wq]; done)))
        | (refine AWP.condF ?_ ?_; (focus (simp [go_sem, hq3, p4, p5, p6, y1, y2, y3, wq]; done)))
        | (apply AWP.rE; (focus (simp [go_sem, hq3, p4, p5, p6, y1, y2, y3, wq]; exact ⟨rfl, rfl⟩)); try dsimp only [thn, inBlk])
        | fail)
      exact ⟨n - (q + 1), by omega, q + 1, bs'.set q 238, by omega, by simp [hbl], rfl, by simp [go_sem], kq2⟩
    · have hn' : (B0 == 0) = false := by simpa using hn
      have hBB : B0 = B := by rw [← hB, hstick hn, hB0]
      subst hBB
      (repeat' first
        | refine AWP.seq ?_
        | refine AWP.block ?_
        | (refine AWP.skip ?_; try dsimp only [thn, inBlk])
        | (refine AWP.exit ?_; try simp only [thn, inBlk, if_true, reduceIte, Nat.reduceEqDiff])
        | (refine AWP.ret ?_; try dsimp only [thn, inBlk])
        | (refine AWP.condT ?_ ?_; (focus (simp [go_sem, s1, s2, hB1', hn']; done)))
        | (refine AWP.condF ?_ ?_; (focus (simp [go_sem, s1, s2, hB1', hn']; done)))
        | (apply AWP.rE; (focus (simp [go_sem, s1, s2, hB1', hn']; exact ⟨rfl, rfl⟩)); try dsimp only [thn, inBlk])
        | fail)
      refine AWP.callE (by simp [go_sem]; exact ⟨rfl, rfl, rfl, rfl, rfl⟩) (by kernel_rfl) ?_
      refine (between_calls (lo := all.length) (hi := A.length) k8 (by omega) (fun x hx => ⟨by have := hsm2.2.1 x hx; omega, by have := hpos2 x hx; omega⟩)).mono ?_
      rintro v h7 ⟨a7, c7, L, rfl, k9, hbr⟩
      refine awpL_restE (by simp [go_sem]; exact ⟨rfl, rfl⟩) ?_; try dsimp only [thn, inBlk]
      (repeat' first
        | refine AWP.seq ?_
        | refine AWP.block ?_
        | (refine AWP.skip ?_; try dsimp only [thn, inBlk])
        | (refine AWP.exit ?_; try simp only [thn, inBlk, if_true, reduceIte, Nat.reduceEqDiff])
        | (refine AWP.ret ?_; try dsimp only [thn, inBlk])
        | (refine AWP.condT ?_ ?_; (focus (simp [go_sem, hB1', hn']; done)))
        | (refine AWP.condF ?_ ?_; (focus (simp [go_sem, hB1', hn']; done)))
        | (apply AWP.rE; (focus (simp [go_sem, hB1', hn']; exact ⟨rfl, rfl⟩)); try dsimp only [thn, inBlk])
        | fail)
      refine AWP.callE (by simp [go_sem]; exact ⟨rfl, rfl, rfl, rfl, rfl⟩) (by kernel_rfl) ?_
      refine (same_calls (fs := F.out) (gs := []) (k9.rest.b1).brecs_read br_nil (by omega)).mono ?_
      rintro v h8 ⟨rfl, rfl⟩
      rw [show decide (F.out = []) = true by rw [decide_eq_true_eq, hFout]]
      refine awpL_restE (by simp [go_sem]; exact ⟨rfl, rfl⟩) ?_; try dsimp only [thn, inBlk]
      (repeat' first
        | refine AWP.seq ?_
        | refine AWP.block ?_
        | (refine AWP.skip ?_; try dsimp only [thn, inBlk])
        | (refine AWP.exit ?_; try simp only [thn, inBlk, if_true, reduceIte, Nat.reduceEqDiff])
        | (refine AWP.ret ?_; try dsimp only [thn, inBlk])
        | (refine AWP.condT ?_ ?_; (focus (simp [go_sem]; done)))
        | (refine AWP.condF ?_ ?_; (focus (simp [go_sem]; done)))
        | (apply AWP.rE; (focus (simp [go_sem]; exact ⟨rfl, rfl⟩)); try dsimp only [thn, inBlk])
        | fail)
      have k10 := k9.rest.b1.d3.b2
      have hbod : ∀ f ∈ F.out, f.2.length ≤ 10000 := fun f hf => by have := hFI.bod f hf; omega
      generalize hN : F.out.length = N at k10 hFl ⊢
      refine AWP.loopR [3, 4, 5, 9, 26, 27, 28, 84, 85] (fun m s h' => ∃ (d : Nat) (Gs : List Tl), d ≤ N ∧ Gs.length = N ∧ (∀ f ∈ Gs, f.2.length ≤ 10000) ∧ m = N - d ∧
        s = ⟨107, [(3, ptr i), (4, .slice a5 A.length c5), (5, .int .i64 B0), (9, .slice a2 N c2), (26, .slice va ps.length vc), (27, .int .i64 ps.length), (28, .int .i64 j), (84, .int .i64 N), (85, .int .i64 d)]⟩ ∧
        Own h.asOld h' [tels (.slice a2 N c2) Gs, rdz i F, ob 5 (.slice a5 A.length c5) A]) ?_ ?_
      · exact ⟨_, 0, F.out, by omega, hN, hbod, rfl, by simp [go_sem, hN], k10.b1⟩
      rintro m s hC ⟨d, Gs, hd, hGl, hGs, rfl, rfl, kd⟩
      by_cases hd2 : d < N
      rotate_left
      · have hd3 : ¬ (d : Int) < N := by omega
        (repeat' first
          | refine AWP.seq ?_
          | refine AWP.block ?_
          | (refine AWP.skip ?_; try dsimp only [thn, inBlk])
          | (refine AWP.exit ?_; try simp only [thn, inBlk, if_true, reduceIte, Nat.reduceEqDiff])
          | (refine AWP.ret ?_; try dsimp only [thn, inBlk])
          | (refine AWP.condT ?_ ?_; (focus (simp [go_sem, hd3, wj]; done)))
          | (refine AWP.condF ?_ ?_; (focus (simp [go_sem, hd3, wj]; done)))
          | (apply AWP.rE; (focus (simp [go_sem, hd3, wj]; exact ⟨rfl, rfl⟩)); try dsimp only [thn, inBlk])
          | fail)
        exact ⟨ps.length - (j + 1), by omega, j + 1, A, F, a5, c5, by omega, rfl, by simp [go_sem, hB], hFclr, by omega, kd.tail⟩
      have hd3 : (d : Int) < N := by omega
      have wd : IntKind.i64.wrap ((d : Int) + 1) = d + 1 := wI64 (by omega) (by omega)
      obtain ⟨ba, bc, R', kb, hrd, hback⟩ := body_at kd (j := d) (by omega)
      have hgl : (Gs[d]'(by omega)).2.length ≤ 10000 := hGs _ (List.getElem_mem _)
      obtain ⟨i1, o1, cc1, ee1, ss1, tt1, rr1, p1, p2, p3⟩ := hrd _ kb.tail
      generalize hn9 : (Gs[d]'(by omega)).2.length = n at *
      (repeat' first
        | refine AWP.seq ?_
        | refine AWP.block ?_
        | (refine AWP.skip ?_; try dsimp only [thn, inBlk])
        | (refine AWP.exit ?_; try simp only [thn, inBlk, if_true, reduceIte, Nat.reduceEqDiff])
        | (refine AWP.ret ?_; try dsimp only [thn, inBlk])
        | (refine AWP.condT ?_ ?_; (focus (simp [go_sem, hd3, p1, p2, p3]; done)))
        | (refine AWP.condF ?_ ?_; (focus (simp [go_sem, hd3, p1, p2, p3]; done)))
        | (apply AWP.rE; (focus (simp [go_sem, hd3, p1, p2, p3]; exact ⟨rfl, rfl⟩)); try dsimp only [thn, inBlk])
        | fail)
      refine AWP.loopR [3, 4, 5, 9, 15, 26, 27, 28, 84, 85, 93, 94] (fun m s h' => ∃ (q : Nat) (bs' : List UInt8), q ≤ n ∧ bs'.length = n ∧ m = n - q ∧
        s = ⟨107, [(3, ptr i), (4, .slice a5 A.length c5), (5, .int .i64 B0), (9, .slice a2 N c2), (15, .int .i64 d), (26, .slice va ps.length vc), (27, .int .i64 ps.length), (28, .int .i64 j), (84, .int .i64 N), (85, .int .i64 d), (93, .int .i64 n), (94, .int .i64 q)]⟩ ∧
        Own h.asOld h' (ob 5 (.slice ba n bc) bs' :: R')) ?_ ?_
      · exact ⟨_, 0, _, by omega, hn9, rfl, by simp [go_sem], kb⟩
      rintro m s hD ⟨q, bs', hq, hbl, rfl, rfl, kq⟩
      by_cases hq2 : q < n
      rotate_left
      · have hq3 : ¬ (q : Int) < n := by omega
        (repeat' first
          | refine AWP.seq ?_
          | refine AWP.block ?_
          | (refine AWP.skip ?_; try dsimp only [thn, inBlk])
          | (refine AWP.exit ?_; try simp only [thn, inBlk, if_true, reduceIte, Nat.reduceEqDiff])
          | (refine AWP.ret ?_; try dsimp only [thn, inBlk])
          | (refine AWP.condT ?_ ?_; (focus (simp [go_sem, hq3, wd]; done)))
          | (refine AWP.condF ?_ ?_; (focus (simp [go_sem, hq3, wd]; done)))
          | (apply AWP.rE; (focus (simp [go_sem, hq3, wd]; exact ⟨rfl, rfl⟩)); try dsimp only [thn, inBlk])
          | fail)
        refine ⟨N - (d + 1), by omega, d + 1, Gs.set d ((Gs[d]'(by omega)).1, bs'), by omega, by simp [hGl], fun f hf => ?_, rfl, by simp [go_sem], hback _ _ hbl kq⟩
        rcases List.mem_or_eq_of_mem_set hf with hf | rfl
        · exact hGs f hf
        · simp only; omega
      have hq3 : (q : Int) < n := by omega
      have wq : IntKind.i64.wrap ((q : Int) + 1) = q + 1 := wI64 (by omega) (by omega)
      obtain ⟨i2, o2, cc2, ee2, ss2, tt2, rr2, p4, p5, p6⟩ := hrd _ kq.tail
      obtain ⟨xi, xo, xc, xt, y1, y2, y3, kq2⟩ := kq.ob_write (P := Tryd.prog) (t := 22) Tryd.underlying22 tsz5 (j := q) (by omega) 238 (kd := .i64)
      have y3 : xo + 1 ≤ xc.length := y3
      (repeat' first
        | refine AWP.seq ?_
        | refine AWP.block ?_
        | (refine AWP.skip ?_; try dsimp only [thn, inBlk])
        | (refine AWP.exit ?_; try simp only [thn, inBlk, if_true, reduceIte, Nat.reduceEqDiff])
        | (refine AWP.ret ?_; try dsimp only [thn, inBlk])
        | (refine AWP.condT ?_ ?_; (focus (simp [go_sem, hq3, p4, p5, p6, y1, y2, y3, wq]; done)))
        | (refine AWP.condF ?_ ?_; (focus (simp [go_sem, hq3, p4, p5, p6, y1, y2, y3, wq]; done)))
        | (apply AWP.rE; (focus (simp [go_sem, hq3, p4, p5, p6, y1, y2, y3, wq]; exact ⟨rfl, rfl⟩)); try dsimp only [thn, inBlk])
        | fail)
      exact ⟨n - (q + 1), by omega, q + 1, bs'.set q 238, by omega, by simp [hbl], rfl, by simp [go_sem], kq2⟩
end L22
