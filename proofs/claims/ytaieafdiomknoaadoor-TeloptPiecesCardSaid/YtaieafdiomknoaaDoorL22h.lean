import Derived.Test.YtaieafdiomknoaaDoorL22g
open Go Ab Go.Proofs
namespace L22
set_option autoImplicit false
set_option linter.unusedSimpArgs false
set_option linter.unusedVariables false

def feedL : Rd → List UInt8 → Rd
  | s, [] => s
  | s, c :: l => if s.br = 0 then feedL (takeR s c) l else s
def clr (s : Rd) : Rd := { s with out := [] }
def feedR (s : Rd) (bs : List UInt8) : Rd := if (feedL (clr s) bs).br = 0 then feedL (clr s) bs else clr (feedL (clr s) bs)

theorem feedL_stop {s : Rd} (h : ¬ s.br = 0) : ∀ l, feedL s l = s
  | [] => rfl
  | c :: l => by rw [feedL, if_neg h]
theorem RI.feedL : ∀ {l : List UInt8} {n : Nat} {s : Rd}, RI n s → RI (n + l.length) (feedL s l)
  | [], n, s, h => h
  | c :: l, n, s, h => by
    rw [L22.feedL]
    split
    · have := RI.feedL (l := l) (h.take (c := c))
      rw [List.length_cons, show n + (l.length + 1) = n + 1 + l.length by omega]; exact this
    · exact ⟨by have := h.out; omega, fun f hf => by have := h.bod f hf; omega, h.pd⟩

/-- A reader whose parts were handed out. -/
def rdz (i : Nat) (s : Rd) : Chunk := ex fun x : (Option Addr × Nat) × Option Addr × Nat × Nat => star [cell i (.row [.int .i64 s.st, .int .i64 s.pk, .int .i64 s.pv, .int .i64 s.po, .slice x.1.1 s.pd.length x.1.2, .slice x.2.1 x.2.2.1 x.2.2.2, .int .i64 s.br] 59 7 true false), ob 5 (.slice x.1.1 s.pd.length x.1.2) s.pd]
theorem rdz_iff {O : Old} {h : AHeap} {R : List Chunk} {i : Nat} {s : Rd} : Own O h (rdz i s :: R) ↔ ∃ pa pc oa on oc, Own O h (cell i (.row [.int .i64 s.st, .int .i64 s.pk, .int .i64 s.pv, .int .i64 s.po, .slice pa s.pd.length pc, .slice oa on oc, .int .i64 s.br] 59 7 true false) :: ob 5 (.slice pa s.pd.length pc) s.pd :: R) := by
  simp only [rdz, Own.ex_iff, Own.star_iff, List.cons_append, List.nil_append]
  exact ⟨fun ⟨x, k⟩ => ⟨_, _, _, _, _, k⟩, fun ⟨pa, pc, oa, on, oc, k⟩ => ⟨((pa, pc), oa, on, oc), k⟩⟩
theorem to_rdz {O : Old} {h : AHeap} {R : List Chunk} {i : Nat} {s : Rd} (k : Own O h (rdr i s :: R)) : Own O h (rdz i s :: R) := by
  obtain ⟨pa, pc, oa, oc, k1⟩ := rdr_iff.1 k
  exact rdz_iff.2 ⟨pa, pc, oa, _, oc, k1.d2⟩

set_option maxHeartbeats 2000000 in
theorem feed_calls {O : Old} {h : AHeap} {R : List Chunk} {i : Nat} {s : Rd} {v : Value} {bs : List UInt8} (k : Own O h (rdz i s :: R)) (hx : ∀ h, Own O h R → Bytes h v bs) (hm : bs.length ≤ 900000) (hp : s.pd.length ≤ 3000) :
    ACalls Tryd.prog 12 #[ptr i, v] h fun r h' => ∃ a cap, r = .tuple #[.slice a (feedR s bs).out.length cap, .int .i64 (feedR s bs).br] ∧ Own O h' (tels (.slice a (feedR s bs).out.length cap) (feedR s bs).out :: rdz i (feedR s bs) :: R) := by
  obtain ⟨st, pk, pv, po, pd, out, br⟩ := s
  dsimp only at hp
  obtain ⟨pa, pc, oa, on, oc, k1⟩ := rdz_iff.1 k
  dsimp only at k1
  have c1 := k1.obj
  obtain ⟨va, vc, rfl⟩ := (hx h k.tail).val
  refine ACalls.of_awp (args := [ptr i, .slice va bs.length vc]) (n := 42) Tryd.func12 rfl rfl (by show 2 ≤ 42; omega) ?_
  have k2 : Own O _ (rdr i ⟨st, pk, pv, po, pd, [], br⟩ :: R) := rdr_iff.2 ⟨pa, pc, none, 0, ((k1.set (.row [.int .i64 st, .int .i64 pk, .int .i64 pv, .int .i64 po, .slice pa pd.length pc, .slice none 0 0, .int .i64 br] 59 7 true false)).brecs_nil (pre := pre) 24 4 5).p2⟩
  have hF : feedL (clr ⟨st, pk, pv, po, pd, out, br⟩) bs = feedL ⟨st, pk, pv, po, pd, [], br⟩ bs := rfl
  have hI : RI 0 ⟨st, pk, pv, po, pd, [], br⟩ := ⟨by simp, by simp, hp⟩
  refine AWP.seq ?_
  (apply AWP.rE; (focus (simp [go_sem]; exact ⟨rfl, rfl⟩)); try dsimp only [thn, inBlk])
  refine AWP.seq ?_
  (apply AWP.rE; (focus (simp [go_sem, c1]; exact ⟨rfl, rfl⟩)); try dsimp only [thn, inBlk])
  generalize (h.set i (.row [.int .i64 st, .int .i64 pk, .int .i64 pv, .int .i64 po, .slice pa pd.length pc, .slice none 0 0, .int .i64 br] 59 7 true false)) = h1 at k2 ⊢
  obtain ⟨F, hFF⟩ : ∃ F, F = feedL ⟨st, pk, pv, po, pd, [], br⟩ bs := ⟨_, rfl⟩
  refine AWP.cut [0] (fun s h' => s = ⟨42, [(0, ptr i)]⟩ ∧ RI bs.length F ∧ Own O h' (rdr i F :: R)) ?_ ?_
  · (repeat' first
      | refine AWP.seq ?_
      | refine AWP.block ?_
      | (refine AWP.skip ?_; try dsimp only [thn, inBlk])
      | (refine AWP.exit ?_; try simp only [thn, inBlk, if_true, reduceIte, Nat.reduceEqDiff])
      | (refine AWP.ret ?_; try dsimp only [thn, inBlk])
      | (refine AWP.condT ?_ ?_; (focus (simp [go_sem]; done)))
      | (refine AWP.condF ?_ ?_; (focus (simp [go_sem]; done)))
      | (apply AWP.rE; (focus (simp [go_sem]; exact ⟨rfl, rfl⟩)); try dsimp only [thn, inBlk])
      | (apply AWP.dE hmix [.n 0 [0], .n 1 [34], .n 2 [35], .n 3 [36], .n 4 [0], .n 5 [38], .n 6 [39], .n 7 [40], .n 8 [37], .n 9 [41]]; (focus kernel_rfl); (focus (simp [go_sem]; exact ⟨rfl, rfl⟩)); try dsimp only [thn, inBlk])
      | fail)
    refine AWP.loopR [0, 11, 12, 13] (fun m s h' => ∃ j S, j ≤ bs.length ∧ m = bs.length - j ∧ s = ⟨42, [(0, ptr i), (11, .slice va bs.length vc), (12, .int .i64 (bs.length : Nat)), (13, .int .i64 (j : Nat))]⟩ ∧
      feedL S (bs.drop j) = F ∧ RI j S ∧ Own O h' (rdr i S :: R)) ?_ ?_
    · exact ⟨_, 0, _, by omega, rfl, rfl, hFF.symm, hI, k2⟩
    rintro r s hB ⟨j, S, hj, rfl, rfl, hS, hIS, kB⟩
    by_cases hjm : j < bs.length
    rotate_left
    · obtain rfl : j = bs.length := by omega
      rw [List.drop_length] at hS
      obtain rfl : S = F := hS
      (repeat' first
        | refine AWP.seq ?_
        | refine AWP.block ?_
        | (refine AWP.skip ?_; try dsimp only [thn, inBlk])
        | (refine AWP.exit ?_; try simp only [thn, inBlk, if_true, reduceIte, Nat.reduceEqDiff])
        | (refine AWP.ret ?_; try dsimp only [thn, inBlk])
        | (refine AWP.condT ?_ ?_; (focus (simp [go_sem]; done)))
        | (refine AWP.condF ?_ ?_; (focus (simp [go_sem]; done)))
        | (apply AWP.rE; (focus (simp [go_sem]; exact ⟨rfl, rfl⟩)); try dsimp only [thn, inBlk])
        | (apply AWP.dE hmix [.n 0 [0], .n 1 [34], .n 2 [35], .n 3 [36], .n 4 [0], .n 5 [38], .n 6 [39], .n 7 [40], .n 8 [37], .n 9 [41]]; (focus kernel_rfl); (focus (simp [go_sem]; exact ⟨rfl, rfl⟩)); try dsimp only [thn, inBlk])
        | fail)
      exact ⟨rfl, hIS, kB⟩
    have hjm' : (j : Int) < bs.length := by omega
    obtain ⟨i0, o0, r0, e0, z0, ti0, ro0, p0, q0, g0⟩ := (hx hB kB.tail).at (P := Tryd.prog) (t := 22) Tryd.underlying22 tsz5 (j := j) hjm (kd := .i64)
    have hdr : bs.drop j = bs[j] :: bs.drop (j + 1) := List.drop_eq_getElem_cons hjm
    rw [hdr] at hS
    obtain ⟨c, hcc⟩ : ∃ c, c = bs[j] := ⟨_, rfl⟩
    simp only [← hcc] at g0 hS
    obtain ⟨st', pk', pv', po', pd', out', br'⟩ := S
    obtain ⟨pa', pc', oa', oc', kC⟩ := rdr_iff.1 kB
    dsimp only [rrow] at kC
    have c2 := kC.obj
    by_cases hbr : br' = 0
    rotate_left
    · have hb' : (br' != 0) = true := by simpa using hbr
      rw [feedL_stop (by simpa using hbr)] at hS
      subst hS
      (repeat' first
        | refine AWP.seq ?_
        | refine AWP.block ?_
        | (refine AWP.skip ?_; try dsimp only [thn, inBlk])
        | (refine AWP.exit ?_; try simp only [thn, inBlk, if_true, reduceIte, Nat.reduceEqDiff])
        | (refine AWP.ret ?_; try dsimp only [thn, inBlk])
        | (refine AWP.condT ?_ ?_; (focus (simp [go_sem, hjm', p0, q0, g0, c2, hb']; done)))
        | (refine AWP.condF ?_ ?_; (focus (simp [go_sem, hjm', p0, q0, g0, c2, hb']; done)))
        | (apply AWP.rE; (focus (simp [go_sem, hjm', p0, q0, g0, c2, hb']; exact ⟨rfl, rfl⟩)); try dsimp only [thn, inBlk])
        | (apply AWP.dE hmix [.n 0 [0], .n 1 [34], .n 2 [35], .n 3 [36], .n 4 [0], .n 5 [38], .n 6 [39], .n 7 [40], .n 8 [37], .n 9 [41]]; (focus kernel_rfl); (focus (simp [go_sem, hjm', p0, q0, g0, c2, hb']; exact ⟨rfl, rfl⟩)); try dsimp only [thn, inBlk])
        | fail)
      exact ⟨rfl, ⟨by have := hIS.out; omega, fun f hf => by have := hIS.bod f hf; omega, hIS.pd⟩, kB⟩
    subst hbr
    (repeat' first
      | refine AWP.seq ?_
      | refine AWP.block ?_
      | (refine AWP.skip ?_; try dsimp only [thn, inBlk])
      | (refine AWP.exit ?_; try simp only [thn, inBlk, if_true, reduceIte, Nat.reduceEqDiff])
      | (refine AWP.ret ?_; try dsimp only [thn, inBlk])
      | (refine AWP.condT ?_ ?_; (focus (simp [go_sem, hjm', p0, q0, g0, c2]; done)))
      | (refine AWP.condF ?_ ?_; (focus (simp [go_sem, hjm', p0, q0, g0, c2]; done)))
      | (apply AWP.rE; (focus (simp [go_sem, hjm', p0, q0, g0, c2]; exact ⟨rfl, rfl⟩)); try dsimp only [thn, inBlk])
      | (apply AWP.dE hmix [.n 0 [0], .n 1 [34], .n 2 [35], .n 3 [36], .n 4 [0], .n 5 [38], .n 6 [39], .n 7 [40], .n 8 [37], .n 9 [41]]; (focus kernel_rfl); (focus (simp [go_sem, hjm', p0, q0, g0, c2]; exact ⟨rfl, rfl⟩)); try dsimp only [thn, inBlk])
      | fail)
    refine AWP.callE (by simp [go_sem]; exact ⟨rfl, rfl, rfl, rfl, rfl⟩) (by kernel_rfl) ?_
    refine (take_calls kB hIS (by omega)).mono ?_
    rintro r h' k3
    refine awpL_restE (by simp [go_sem]; exact ⟨rfl, rfl⟩) ?_; try dsimp only [thn, inBlk]
    have w8 : IntKind.i64.wrap ((j : Int) + 1) = ((j + 1 : Nat) : Int) := by rw [wI64 (by omega) (by omega)]; omega
    (repeat' first
      | refine AWP.seq ?_
      | refine AWP.block ?_
      | (refine AWP.skip ?_; try dsimp only [thn, inBlk])
      | (refine AWP.exit ?_; try simp only [thn, inBlk, if_true, reduceIte, Nat.reduceEqDiff])
      | (refine AWP.ret ?_; try dsimp only [thn, inBlk])
      | (refine AWP.condT ?_ ?_; (focus (simp [go_sem, w8]; done)))
      | (refine AWP.condF ?_ ?_; (focus (simp [go_sem, w8]; done)))
      | (apply AWP.rE; (focus (simp [go_sem, w8]; exact ⟨rfl, rfl⟩)); try dsimp only [thn, inBlk])
      | (apply AWP.dE hmix [.n 0 [0], .n 1 [34], .n 2 [35], .n 3 [36], .n 4 [0], .n 5 [38], .n 6 [39], .n 7 [40], .n 8 [37], .n 9 [41]]; (focus kernel_rfl); (focus (simp [go_sem, w8]; exact ⟨rfl, rfl⟩)); try dsimp only [thn, inBlk])
      | fail)
    refine ⟨bs.length - (j + 1), by omega, j + 1, _, by omega, rfl, rfl, ?_, hIS.take, k3⟩
    rw [← hS, feedL, if_pos rfl]
  · rintro s hB ⟨rfl, hIF, kF⟩
    obtain ⟨st', pk', pv', po', pd', out', br'⟩ := F
    obtain ⟨pa', pc', oa', oc', kC⟩ := rdr_iff.1 kF
    dsimp only [rrow] at kC
    have c2 := kC.obj
    by_cases hbr : br' = 0
    rotate_left
    · have hb' : (br' != 0) = true := by simpa using hbr
      have e : feedR ⟨st, pk, pv, po, pd, out, br⟩ bs = ⟨st', pk', pv', po', pd', [], br'⟩ := by
        unfold feedR; rw [hF, ← hFF, if_neg (by simpa using hbr)]; rfl
      rw [e]
      (repeat' first
        | refine AWP.seq ?_
        | refine AWP.block ?_
        | (refine AWP.skip ?_; try dsimp only [thn, inBlk])
        | (refine AWP.exit ?_; try simp only [thn, inBlk, if_true, reduceIte, Nat.reduceEqDiff])
        | (refine AWP.ret ?_; try dsimp only [thn, inBlk])
        | (refine AWP.condT ?_ ?_; (focus (simp [go_sem, c2, hb']; done)))
        | (refine AWP.condF ?_ ?_; (focus (simp [go_sem, c2, hb']; done)))
        | (apply AWP.rE; (focus (simp [go_sem, c2, hb']; exact ⟨rfl, rfl⟩)); try dsimp only [thn, inBlk])
        | (apply AWP.dE hmix [.n 0 [0], .n 1 [34], .n 2 [35], .n 3 [36], .n 4 [0], .n 5 [38], .n 6 [39], .n 7 [40], .n 8 [37], .n 9 [41]]; (focus kernel_rfl); (focus (simp [go_sem, c2, hb']; exact ⟨rfl, rfl⟩)); try dsimp only [thn, inBlk])
        | fail)
      simp [bodyQ, thn, inBlk, resA, resV, go_sem]
      exact ⟨none, 0, ⟨rfl, rfl⟩, (rdz_iff.2 ⟨pa', pc', none, 0, 0, (kC.set _).d2⟩).brecs_nil (pre := pre) 24 4 5⟩
    subst hbr
    have e : feedR ⟨st, pk, pv, po, pd, out, br⟩ bs = ⟨st', pk', pv', po', pd', out', 0⟩ := by
      unfold feedR; rw [hF, ← hFF, if_pos (by rfl)]
    rw [e]
    (repeat' first
      | refine AWP.seq ?_
      | refine AWP.block ?_
      | (refine AWP.skip ?_; try dsimp only [thn, inBlk])
      | (refine AWP.exit ?_; try simp only [thn, inBlk, if_true, reduceIte, Nat.reduceEqDiff])
      | (refine AWP.ret ?_; try dsimp only [thn, inBlk])
      | (refine AWP.condT ?_ ?_; (focus (simp [go_sem, c2]; done)))
      | (refine AWP.condF ?_ ?_; (focus (simp [go_sem, c2]; done)))
      | (apply AWP.rE; (focus (simp [go_sem, c2]; exact ⟨rfl, rfl⟩)); try dsimp only [thn, inBlk])
      | (apply AWP.dE hmix [.n 0 [0], .n 1 [34], .n 2 [35], .n 3 [36], .n 4 [0], .n 5 [38], .n 6 [39], .n 7 [40], .n 8 [37], .n 9 [41]]; (focus kernel_rfl); (focus (simp [go_sem, c2]; exact ⟨rfl, rfl⟩)); try dsimp only [thn, inBlk])
      | fail)
    simp [bodyQ, thn, inBlk, resA, resV, go_sem]
    have k9 : Own O hB (rdz i ⟨st', pk', pv', po', pd', out', 0⟩ :: tels (.slice oa' out'.length oc') out' :: R) := rdz_iff.2 ⟨pa', pc', oa', _, oc', kC⟩
    exact ⟨oa', oc', ⟨rfl, rfl⟩, k9.b1⟩
end L22
