import Derived.Test.YteodcjamnfoidaaDoorL19f
open Go Ab Go.Proofs
namespace L19
set_option autoImplicit false
set_option linter.unusedSimpArgs false
set_option linter.unusedVariables false

/-! ### Coming to a path -/
def comeF (T : TL) (who p : List UInt8) : Nat → Nat → Int
  | 0, _ => 0
  | n + 1, i => if p[i]? = some 47 ∧ p ≠ [47] then
      match get T (p.take (max i 1)) with
      | none => 110
      | some nd => if nd.dir = false then 112 else if may who nd 1 = false then 114 else comeF T who p n (i + 1)
    else comeF T who p n (i + 1)
def comeE (T : TL) (who p : List UInt8) : Int := if pathB p = true then comeF T who p p.length 0 else 30
/-- What is pointed to. -/
def pv (T : TL) (ws : List Wd) (p : List UInt8) : Value := match T.findIdx? (fun x => x.1 == p) with
  | some j => match ws[j]? with
    | some w => ptr w.1
    | none => .pointer none
  | none => .pointer none
theorem findIdx_get {T : TL} {p : List UInt8} {n : Nd} (h : get T p = some n) : ∃ j : Nat, T[j]? = some (p, n) ∧ T.findIdx? (fun x => x.1 == p) = some j := by
  obtain ⟨x, hx, rfl⟩ := Option.map_eq_some_iff.1 h
  have h1 : (x.1 == p) = true := by simpa using List.find?_some hx
  cases hf : T.findIdx? (fun x => x.1 == p) with
  | none =>
    have := List.findIdx?_eq_none_iff.1 hf x (List.mem_of_find?_eq_some hx)
    rw [h1] at this; cases this
  | some j =>
    refine ⟨j, ?_, rfl⟩
    have e := List.find?_eq_bind_findIdx?_getElem? (p := fun x : List UInt8 × Nd => x.1 == p) (xs := T)
    rw [hx, hf] at e
    have e2 : T[j]? = some x := e.symm
    have : x.1 = p := by simpa using h1
    rw [e2, ← this]
theorem pv_none {T : TL} {ws : List Wd} {p : List UInt8} (h : get T p = none) : pv T ws p = .pointer none := by
  have : T.findIdx? (fun x => x.1 == p) = none := List.findIdx?_eq_none_iff.2 fun x hx => by simpa using get_none h x hx
  simp only [pv, this]
theorem pv_some {T : TL} {ws : List Wd} {p : List UInt8} {n : Nd} (hw : ws.length = T.length) (h : get T p = some n) : ∃ (j : Nat) (w : Wd), T[j]? = some (p, n) ∧ ws[j]? = some w ∧ pv T ws p = ptr w.1 := by
  obtain ⟨j, hj, hf⟩ := findIdx_get h
  obtain ⟨hlt, _⟩ := List.getElem?_eq_some_iff.1 hj
  have hw2 : ws[j]? = some (ws[j]'(by omega)) := List.getElem?_eq_getElem (by omega)
  exact ⟨j, _, hj, hw2, by simp only [pv, hf, hw2]⟩

section
variable {O : Old} {h : AHeap} {R : List Chunk} {i m : Nat} {T : TL} {ws : List Wd}
theorem tlook (hI : TI T) (hw : ws.length = T.length) (k : Own O h (tro i m T ws ++ R)) {p : List UInt8} (hp : p.length ≤ 1000000) : lookupR Tryd.prog h 60 (.map (some m)) (tx p) false = some (pv T ws p) := by
  have k1 : Own O h (mch m T ws :: cell i (trow m) :: (nsubs T ws ++ R)) := (show Own O h (cell i (trow m) :: mch m T ws :: (nsubs T ws ++ R)) from k).b1
  cases hg : get T p with
  | none => rw [pv_none hg]; exact tmap_miss hI hw k1 hp hg false
  | some n =>
    obtain ⟨j, w, h1, h2, h3⟩ := pv_some hw hg
    rw [h3]; exact tmap_hit hI hw k1 h1 h2 false

set_option maxHeartbeats 8000000 in
theorem come_calls {who p : List UInt8} (hI : TI T) (hw : ws.length = T.length) (k : Own O h (tro i m T ws ++ R)) (hp : p.length ≤ 900000) :
    ACalls Tryd.prog 29 #[ptr i, tx who, tx p] h fun r h' => r = .tuple #[if comeE T who p = 0 then pv T ws p else .pointer none, .int .i64 (comeE T who p)] ∧ Own O h' (tro i m T ws ++ R) := by
  refine ACalls.of_awp (args := [ptr i, tx who, tx p]) (n := 60) Tryd.func29 rfl rfl (by show 3 ≤ 60; omega) ?_
  (repeat' first
    | refine AWP.seq ?_
    | refine AWP.block ?_
    | (refine AWP.skip ?_; try dsimp only [thn, inBlk])
    | (refine AWP.exit ?_; try simp only [thn, inBlk, if_true, reduceIte, Nat.reduceEqDiff])
    | (refine AWP.ret ?_; try dsimp only [thn, inBlk])
    | (refine AWP.condT ?_ ?_; (focus (simp [go_sem]; done)))
    | (refine AWP.condF ?_ ?_; (focus (simp [go_sem]; done)))
    | (apply AWP.rE; (focus (simp [go_sem]; exact ⟨rfl, rfl⟩)); try dsimp only [thn, inBlk])
    | (apply AWP.dE hmix [.n 0 [0], .n 1 [28], .n 2 [29], .n 3 [30], .n 4 [2], .n 5 [8], .n 6 [33], .n 7 [32, 34], .n 8 [31, 35], .n 9 [36], .n 10 [27], .n 11 [27], .n 12 [37], .n 13 [38]]; (focus kernel_rfl); (focus (simp [go_sem]; exact ⟨rfl, rfl⟩)); try dsimp only [thn, inBlk])
    | fail)
  refine AWP.callE (by simp [go_sem]; exact ⟨rfl, rfl, rfl, rfl, rfl⟩) (by kernel_rfl) ?_
  refine (path_calls k (l := p) hp).mono ?_
  rintro r h1 ⟨rfl, k1⟩
  cases hpb : pathB p
  · have e : comeE T who p = 30 := by simp [comeE, hpb]
    rw [e]
    refine awpL_restE (by simp [go_sem]; exact ⟨rfl, rfl⟩) ?_; try dsimp only [thn, inBlk]
    (repeat' first
      | refine AWP.seq ?_
      | refine AWP.block ?_
      | (refine AWP.skip ?_; try dsimp only [thn, inBlk])
      | (refine AWP.exit ?_; try simp only [thn, inBlk, if_true, reduceIte, Nat.reduceEqDiff])
      | (refine AWP.ret ?_; try dsimp only [thn, inBlk])
      | (refine AWP.condT ?_ ?_; (focus (simp [go_sem]; done)))
      | (refine AWP.condF ?_ ?_; (focus (simp [go_sem]; done)))
      | (apply AWP.rE; (focus (simp [go_sem]; exact ⟨rfl, rfl⟩)); try dsimp only [thn, inBlk])
      | (apply AWP.dE hmix [.n 0 [0], .n 1 [28], .n 2 [29], .n 3 [30], .n 4 [2], .n 5 [8], .n 6 [33], .n 7 [32, 34], .n 8 [31, 35], .n 9 [36], .n 10 [27], .n 11 [27], .n 12 [37], .n 13 [38]]; (focus kernel_rfl); (focus (simp [go_sem]; exact ⟨rfl, rfl⟩)); try dsimp only [thn, inBlk])
      | fail)
    simp [bodyQ, thn, inBlk, resA, resV, go_sem]
    exact k1
  have e : comeE T who p = comeF T who p p.length 0 := by simp [comeE, hpb]
  rw [e]
  refine awpL_restE (by simp [go_sem]; exact ⟨rfl, rfl⟩) ?_; try dsimp only [thn, inBlk]
  (repeat' first
    | refine AWP.seq ?_
    | refine AWP.block ?_
    | (refine AWP.skip ?_; try dsimp only [thn, inBlk])
    | (refine AWP.exit ?_; try simp only [thn, inBlk, if_true, reduceIte, Nat.reduceEqDiff])
    | (refine AWP.ret ?_; try dsimp only [thn, inBlk])
    | (refine AWP.condT ?_ ?_; (focus (simp [go_sem]; done)))
    | (refine AWP.condF ?_ ?_; (focus (simp [go_sem]; done)))
    | (apply AWP.rE; (focus (simp [go_sem]; exact ⟨rfl, rfl⟩)); try dsimp only [thn, inBlk])
    | (apply AWP.dE hmix [.n 0 [0], .n 1 [28], .n 2 [29], .n 3 [30], .n 4 [2], .n 5 [8], .n 6 [33], .n 7 [32, 34], .n 8 [31, 35], .n 9 [36], .n 10 [27], .n 11 [27], .n 12 [37], .n 13 [38]]; (focus kernel_rfl); (focus (simp [go_sem]; exact ⟨rfl, rfl⟩)); try dsimp only [thn, inBlk])
    | fail)
  refine AWP.loopR [0, 1, 2, 15, 16] (fun s0 s h' => ∃ j : Nat, j ≤ p.length ∧ s0 = p.length - j ∧ s = ⟨60, [(0, ptr i), (1, tx who), (2, tx p), (15, .int .i64 p.length), (16, .int .i64 j)]⟩ ∧ comeF T who p p.length 0 = comeF T who p (p.length - j) j ∧ Own O h' (tro i m T ws ++ R)) ?_ ?_
  · exact ⟨_, 0, by omega, rfl, rfl, rfl, k1⟩
  rintro s0 s h2 ⟨j, hj, rfl, rfl, hE, k2⟩
  have c2 : h2.obj i = some (trow m) := k2.obj
  by_cases hjm : j < p.length
  rotate_left
  · have hjm' : ¬ (j : Int) < p.length := by omega
    have e0 : comeF T who p p.length 0 = 0 := by rw [hE, show p.length - j = 0 by omega]; rfl
    have hlk := tlook hI hw k2 (p := p) (by omega)
    rw [e0]
    (repeat' first
      | refine AWP.seq ?_
      | refine AWP.block ?_
      | (refine AWP.skip ?_; try dsimp only [thn, inBlk])
      | (refine AWP.exit ?_; try simp only [thn, inBlk, if_true, reduceIte, Nat.reduceEqDiff])
      | (refine AWP.ret ?_; try dsimp only [thn, inBlk])
      | (refine AWP.condT ?_ ?_; (focus (simp [go_sem, hjm', c2, hlk]; done)))
      | (refine AWP.condF ?_ ?_; (focus (simp [go_sem, hjm', c2, hlk]; done)))
      | (apply AWP.rE; (focus (simp [go_sem, hjm', c2, hlk]; exact ⟨rfl, rfl⟩)); try dsimp only [thn, inBlk])
      | (apply AWP.dE hmix [.n 0 [0], .n 1 [28], .n 2 [29], .n 3 [30], .n 4 [2], .n 5 [8], .n 6 [33], .n 7 [32, 34], .n 8 [31, 35], .n 9 [36], .n 10 [27], .n 11 [27], .n 12 [37], .n 13 [38]]; (focus kernel_rfl); (focus (simp [go_sem, hjm', c2, hlk]; exact ⟨rfl, rfl⟩)); try dsimp only [thn, inBlk])
      | fail)
    simp [bodyQ, thn, inBlk, resA, resV, go_sem]
    exact k2
  have hjm' : (j : Int) < p.length := by omega
  have hg : indexP Tryd.prog 9 (tx p) (.int .i64 (j : Int)) = some (.int .u8 p[j].toNat) := str_index Tryd.underlying9 hjm
  have hgn : p[j]? = some p[j] := List.getElem?_eq_getElem hjm
  generalize p[j] = c at hg hgn
  have w1 : IntKind.i64.wrap ((j : Int) + 1) = ((j + 1 : Nat) : Int) := by rw [wI64 (by omega) (by omega)]; omega
  have hstep : p.length - j = (p.length - (j + 1)) + 1 := by omega
  rw [hstep, comeF, hgn] at hE
  by_cases hc : c = 47
  rotate_left
  · have hc' : ((c.toNat : Int) != 47) = true := by have := neB (d := 47) hc; simp at this ⊢; omega
    rw [if_neg (fun e => hc (Option.some.inj e.1))] at hE
    (repeat' first
      | refine AWP.seq ?_
      | refine AWP.block ?_
      | (refine AWP.skip ?_; try dsimp only [thn, inBlk])
      | (refine AWP.exit ?_; try simp only [thn, inBlk, if_true, reduceIte, Nat.reduceEqDiff])
      | (refine AWP.ret ?_; try dsimp only [thn, inBlk])
      | (refine AWP.condT ?_ ?_; (focus (simp [go_sem, hjm', hg, hc', w1]; done)))
      | (refine AWP.condF ?_ ?_; (focus (simp [go_sem, hjm', hg, hc', w1]; done)))
      | (apply AWP.rE; (focus (simp [go_sem, hjm', hg, hc', w1]; exact ⟨rfl, rfl⟩)); try dsimp only [thn, inBlk])
      | (apply AWP.dE hmix [.n 0 [0], .n 1 [28], .n 2 [29], .n 3 [30], .n 4 [2], .n 5 [8], .n 6 [33], .n 7 [32, 34], .n 8 [31, 35], .n 9 [36], .n 10 [27], .n 11 [27], .n 12 [37], .n 13 [38]]; (focus kernel_rfl); (focus (simp [go_sem, hjm', hg, hc', w1]; exact ⟨rfl, rfl⟩)); try dsimp only [thn, inBlk])
      | fail)
    exact ⟨p.length - (j + 1), by omega, j + 1, by omega, rfl, by simp [go_sem], hE, k2⟩
  have hc' : ((c.toNat : Int) != 47) = false := by rw [hc]; rfl
  by_cases hp1 : p = [47]
  · have hp1' : (p == [47]) = true := by simpa using hp1
    rw [if_neg (fun e => e.2 hp1)] at hE
    (repeat' first
      | refine AWP.seq ?_
      | refine AWP.block ?_
      | (refine AWP.skip ?_; try dsimp only [thn, inBlk])
      | (refine AWP.exit ?_; try simp only [thn, inBlk, if_true, reduceIte, Nat.reduceEqDiff])
      | (refine AWP.ret ?_; try dsimp only [thn, inBlk])
      | (refine AWP.condT ?_ ?_; (focus (simp [go_sem, hjm', hg, hc', hp1', w1]; done)))
      | (refine AWP.condF ?_ ?_; (focus (simp [go_sem, hjm', hg, hc', hp1', w1]; done)))
      | (apply AWP.rE; (focus (simp [go_sem, hjm', hg, hc', hp1', w1]; exact ⟨rfl, rfl⟩)); try dsimp only [thn, inBlk])
      | (apply AWP.dE hmix [.n 0 [0], .n 1 [28], .n 2 [29], .n 3 [30], .n 4 [2], .n 5 [8], .n 6 [33], .n 7 [32, 34], .n 8 [31, 35], .n 9 [36], .n 10 [27], .n 11 [27], .n 12 [37], .n 13 [38]]; (focus kernel_rfl); (focus (simp [go_sem, hjm', hg, hc', hp1', w1]; exact ⟨rfl, rfl⟩)); try dsimp only [thn, inBlk])
      | fail)
    exact ⟨p.length - (j + 1), by omega, j + 1, by omega, rfl, by simp [go_sem], hE, k2⟩
  have hp1' : (p == [47]) = false := by simpa using hp1
  rw [if_pos ⟨by rw [hc], hp1⟩] at hE
  obtain ⟨q, hq⟩ : ∃ q, q = max j 1 := ⟨_, rfl⟩
  have hmx : (if (j : Int) < 1 then (1 : Int) else (j : Int)) = (q : Int) := by split <;> omega
  have hs : sliceR Tryd.prog h2 9 (tx p) none (some (.int .i64 (q : Int))) none = some (tx (p.take q)) := by
    have := str_slice (P := Tryd.prog) (h := h2) Tryd.underlying9 (l := p) (lo := 0) (hi := q) (a := none) (u := some (.int .i64 (q : Int))) (by omega) (by omega) (.inl ⟨rfl, rfl⟩) (.inr ⟨.i64, rfl⟩)
    rw [List.drop_zero] at this; exact this
  rw [← hq] at hE
  have hpq : (p.take q).length ≤ 1000000 := by simp; omega
  have km : Own O h2 (mch m T ws :: cell i (trow m) :: (nsubs T ws ++ R)) := (show Own O h2 (cell i (trow m) :: mch m T ws :: (nsubs T ws ++ R)) from k2).b1
  cases hgt : get T (p.take q) with
  | none =>
    rw [hgt] at hE
    have e0 : comeF T who p p.length 0 = 110 := hE
    have hl := tmap_miss hI hw km hpq hgt true
    rw [if_pos rfl] at hl
    rw [e0]
    (repeat' first
      | refine AWP.seq ?_
      | refine AWP.block ?_
      | (refine AWP.skip ?_; try dsimp only [thn, inBlk])
      | (refine AWP.exit ?_; try simp only [thn, inBlk, if_true, reduceIte, Nat.reduceEqDiff])
      | (refine AWP.ret ?_; try dsimp only [thn, inBlk])
      | (refine AWP.condT ?_ ?_; (focus (simp [go_sem, hjm', hg, hc', hp1', c2, hmx, hs, hl]; done)))
      | (refine AWP.condF ?_ ?_; (focus (simp [go_sem, hjm', hg, hc', hp1', c2, hmx, hs, hl]; done)))
      | (apply AWP.rE; (focus (simp [go_sem, hjm', hg, hc', hp1', c2, hmx, hs, hl]; exact ⟨rfl, rfl⟩)); try dsimp only [thn, inBlk])
      | (apply AWP.dE hmix [.n 0 [0], .n 1 [28], .n 2 [29], .n 3 [30], .n 4 [2], .n 5 [8], .n 6 [33], .n 7 [32, 34], .n 8 [31, 35], .n 9 [36], .n 10 [27], .n 11 [27], .n 12 [37], .n 13 [38]]; (focus kernel_rfl); (focus (simp [go_sem, hjm', hg, hc', hp1', c2, hmx, hs, hl]; exact ⟨rfl, rfl⟩)); try dsimp only [thn, inBlk])
      | fail)
    simp [bodyQ, thn, inBlk, resA, resV, go_sem]
    exact k2
  | some nd =>
    rw [hgt] at hE
    dsimp only at hE
    obtain ⟨j2, w, t1, t2, _⟩ := pv_some hw hgt
    have hl := tmap_hit hI hw km t1 t2 true
    rw [if_pos rfl] at hl
    have ho : h2.obj w.1 = some (nrow (p.take q, nd) w) := (node_open k2 t1 t2).obj
    have hmd := hI.md _ (List.mem_of_getElem? t1)
    cases hdr : nd.dir
    · have e0 : comeF T who p p.length 0 = 112 := by rw [hE, if_pos hdr]
      rw [e0]
      (repeat' first
        | refine AWP.seq ?_
        | refine AWP.block ?_
        | (refine AWP.skip ?_; try dsimp only [thn, inBlk])
        | (refine AWP.exit ?_; try simp only [thn, inBlk, if_true, reduceIte, Nat.reduceEqDiff])
        | (refine AWP.ret ?_; try dsimp only [thn, inBlk])
        | (refine AWP.condT ?_ ?_; (focus (simp [go_sem, hjm', hg, hc', hp1', c2, hmx, hs, hl, ho, hdr]; done)))
        | (refine AWP.condF ?_ ?_; (focus (simp [go_sem, hjm', hg, hc', hp1', c2, hmx, hs, hl, ho, hdr]; done)))
        | (apply AWP.rE; (focus (simp [go_sem, hjm', hg, hc', hp1', c2, hmx, hs, hl, ho, hdr]; exact ⟨rfl, rfl⟩)); try dsimp only [thn, inBlk])
        | (apply AWP.dE hmix [.n 0 [0], .n 1 [28], .n 2 [29], .n 3 [30], .n 4 [2], .n 5 [8], .n 6 [33], .n 7 [32, 34], .n 8 [31, 35], .n 9 [36], .n 10 [27], .n 11 [27], .n 12 [37], .n 13 [38]]; (focus kernel_rfl); (focus (simp [go_sem, hjm', hg, hc', hp1', c2, hmx, hs, hl, ho, hdr]; exact ⟨rfl, rfl⟩)); try dsimp only [thn, inBlk])
        | fail)
      simp [bodyQ, thn, inBlk, resA, resV, go_sem]
      exact k2
    · rw [if_neg (by rw [hdr]; decide)] at hE
      (repeat' first
        | refine AWP.seq ?_
        | refine AWP.block ?_
        | (refine AWP.skip ?_; try dsimp only [thn, inBlk])
        | (refine AWP.exit ?_; try simp only [thn, inBlk, if_true, reduceIte, Nat.reduceEqDiff])
        | (refine AWP.ret ?_; try dsimp only [thn, inBlk])
        | (refine AWP.condT ?_ ?_; (focus (simp [go_sem, hjm', hg, hc', hp1', c2, hmx, hs, hl, ho, hdr]; done)))
        | (refine AWP.condF ?_ ?_; (focus (simp [go_sem, hjm', hg, hc', hp1', c2, hmx, hs, hl, ho, hdr]; done)))
        | (apply AWP.rE; (focus (simp [go_sem, hjm', hg, hc', hp1', c2, hmx, hs, hl, ho, hdr]; exact ⟨rfl, rfl⟩)); try dsimp only [thn, inBlk])
        | (apply AWP.dE hmix [.n 0 [0], .n 1 [28], .n 2 [29], .n 3 [30], .n 4 [2], .n 5 [8], .n 6 [33], .n 7 [32, 34], .n 8 [31, 35], .n 9 [36], .n 10 [27], .n 11 [27], .n 12 [37], .n 13 [38]]; (focus kernel_rfl); (focus (simp [go_sem, hjm', hg, hc', hp1', c2, hmx, hs, hl, ho, hdr]; exact ⟨rfl, rfl⟩)); try dsimp only [thn, inBlk])
        | fail)
      refine AWP.callE (by simp [go_sem]; exact ⟨rfl, rfl, rfl, rfl, rfl⟩) (by kernel_rfl) ?_
      refine (may_calls (who := who) (bit := 1) ho hmd (by omega)).mono ?_
      rintro r h3 ⟨rfl, rfl⟩
      cases hmy : may who nd 1
      · rw [if_pos hmy] at hE
        rw [hE]
        refine awpL_restE (by simp [go_sem]; exact ⟨rfl, rfl⟩) ?_; try dsimp only [thn, inBlk]
        (repeat' first
          | refine AWP.seq ?_
          | refine AWP.block ?_
          | (refine AWP.skip ?_; try dsimp only [thn, inBlk])
          | (refine AWP.exit ?_; try simp only [thn, inBlk, if_true, reduceIte, Nat.reduceEqDiff])
          | (refine AWP.ret ?_; try dsimp only [thn, inBlk])
          | (refine AWP.condT ?_ ?_; (focus (simp [go_sem]; done)))
          | (refine AWP.condF ?_ ?_; (focus (simp [go_sem]; done)))
          | (apply AWP.rE; (focus (simp [go_sem]; exact ⟨rfl, rfl⟩)); try dsimp only [thn, inBlk])
          | (apply AWP.dE hmix [.n 0 [0], .n 1 [28], .n 2 [29], .n 3 [30], .n 4 [2], .n 5 [8], .n 6 [33], .n 7 [32, 34], .n 8 [31, 35], .n 9 [36], .n 10 [27], .n 11 [27], .n 12 [37], .n 13 [38]]; (focus kernel_rfl); (focus (simp [go_sem]; exact ⟨rfl, rfl⟩)); try dsimp only [thn, inBlk])
          | fail)
        simp [bodyQ, thn, inBlk, resA, resV, go_sem]
        exact k2
      · rw [if_neg (by rw [hmy]; decide)] at hE
        refine awpL_restE (by simp [go_sem]; exact ⟨rfl, rfl⟩) ?_; try dsimp only [thn, inBlk]
        (repeat' first
          | refine AWP.seq ?_
          | refine AWP.block ?_
          | (refine AWP.skip ?_; try dsimp only [thn, inBlk])
          | (refine AWP.exit ?_; try simp only [thn, inBlk, if_true, reduceIte, Nat.reduceEqDiff])
          | (refine AWP.ret ?_; try dsimp only [thn, inBlk])
          | (refine AWP.condT ?_ ?_; (focus (simp [go_sem, w1]; done)))
          | (refine AWP.condF ?_ ?_; (focus (simp [go_sem, w1]; done)))
          | (apply AWP.rE; (focus (simp [go_sem, w1]; exact ⟨rfl, rfl⟩)); try dsimp only [thn, inBlk])
          | (apply AWP.dE hmix [.n 0 [0], .n 1 [28], .n 2 [29], .n 3 [30], .n 4 [2], .n 5 [8], .n 6 [33], .n 7 [32, 34], .n 8 [31, 35], .n 9 [36], .n 10 [27], .n 11 [27], .n 12 [37], .n 13 [38]]; (focus kernel_rfl); (focus (simp [go_sem, w1]; exact ⟨rfl, rfl⟩)); try dsimp only [thn, inBlk])
          | fail)
        exact ⟨p.length - (j + 1), by omega, j + 1, by omega, rfl, by simp [go_sem], hE, k2⟩
end
end L19
