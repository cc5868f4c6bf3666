import Derived.Test.YtaieafdiomknoaaDoorL22za
import Derived.Test.YtaieafdiomknoaaDoorAbLibF
open Go Ab Go.Proofs
namespace L22
set_option autoImplicit false
set_option linter.unusedSimpArgs false
set_option linter.unusedVariables false

/-- What pieces have led to. -/
structure PI (P : List UInt8) (S : Rd) (got : List Tl) (last : Int) : Prop where
  st : clr S = fin rd0 P
  la : last = (fin rd0 P).br
  go : last = 0 → putL got = putL ((evp rd0 0 P).map Prod.fst)
  ln : got.length ≤ P.length
  bd : ∀ f ∈ got, f.2.length ≤ 10000
theorem PI.zero : PI [] rd0 [] 0 := ⟨rfl, rfl, fun _ => rfl, by simp, by simp⟩
theorem PI.pd {P : List UInt8} {S : Rd} {got : List Tl} {last : Int} (h : PI P S got last) : S.pd.length ≤ 3000 ∧ ¬ S.pk = 1 := by
  have h1 : S.pd = (fin rd0 P).pd := by rw [← h.st]; rfl
  have h2 : S.pk = (fin rd0 P).pk := by rw [← h.st]; rfl
  rw [h1, h2]
  exact ⟨(evp_small P rd0 0 (by simp [rd0])).2.2, fin_pk _ _ (by simp [rd0])⟩
theorem PI.next {P Q : List UInt8} {S : Rd} {got : List Tl} {last : Int} (h : PI P S got last) (hq : Q.length ≤ 6000) : PI (P ++ Q) (feedR S Q) (got ++ (feedR S Q).out) (feedR S Q).br := by
  obtain ⟨h1, h2⟩ := h.pd
  have hfin : fin S Q = fin rd0 (P ++ Q) := by rw [fin_append, ← h.st, fin_clr]
  have hbr : (feedR S Q).br = (fin rd0 (P ++ Q)).br := by rw [feedR_br h2, hfin]
  have hI := feedR_RI (s := S) (l := Q) h1
  refine ⟨by rw [feedR_clr h2, hfin], hbr, fun h0 => ?_, ?_, fun f hf => ?_⟩
  · rw [hbr] at h0
    have hl : last = 0 := by
      rw [h.la]
      by_cases hn : (fin rd0 P).br = 0
      · exact hn
      · rw [fin_append, fin_stop hn] at h0; exact absurd h0 hn
    rw [feedR_out P.length h2, hfin, if_pos h0, putL_app2 (h.go hl), evp_append, List.map_append, Nat.zero_add, ← h.st, evp_clr]
  · have := hI.out; have := h.ln; simp; omega
  · rcases List.mem_append.1 hf with hf | hf
    · exact h.bd f hf
    · have := hI.bod f hf; omega

set_option maxHeartbeats 8000000 in
theorem pieces_calls {h : AHeap} {v w : Value} {data : List UInt8} {zs : List Int} (hb : h.base = h.next) (hp : Bytes h v data) (hz : Sl 1 h w zs.length (zs.map (.int .i64))) :
    ACalls Tryd.prog 5 #[v, w] h fun r _ => r = .bool true := by
  refine Own.of_wf fun k0 => ?_
  obtain ⟨va, vc, rfl⟩ := hp.val
  obtain ⟨za, zc, rfl⟩ := hz.val
  refine ACalls.of_awp (args := [.slice va data.length vc, .slice za zs.length zc]) (n := 90) Tryd.func5 rfl rfl (by show 2 ≤ 90; omega) ?_
  (repeat' first
    | refine AWP.seq ?_
    | refine AWP.block ?_
    | (refine AWP.skip ?_; try dsimp only [thn, inBlk])
    | (refine AWP.exit ?_; try simp only [thn, inBlk, if_true, reduceIte, Nat.reduceEqDiff])
    | (refine AWP.ret ?_; try dsimp only [thn, inBlk])
    | (refine AWP.condT ?_ ?_; (focus (simp [go_sem]; done)))
    | (refine AWP.condF ?_ ?_; (focus (simp [go_sem]; done)))
    | (apply AWP.rE; (focus (simp [go_sem]; exact ⟨rfl, rfl⟩)); try dsimp only [thn, inBlk])
    | fail)
  refine AWP.callE (by simp [go_sem]; exact ⟨rfl, rfl, rfl, rfl, rfl⟩) (by kernel_rfl) ?_
  refine (speaks_calls k0).mono ?_
  rintro r h1 ⟨rfl, k1⟩
  refine awpL_restE (by simp [go_sem]; exact ⟨rfl, rfl⟩) ?_; try dsimp only [thn, inBlk]
  by_cases h4 : 4000 < data.length
  · have h4' : (4000 : Int) < data.length := by omega
    (repeat' first
      | refine AWP.seq ?_
      | refine AWP.block ?_
      | (refine AWP.skip ?_; try dsimp only [thn, inBlk])
      | (refine AWP.exit ?_; try simp only [thn, inBlk, if_true, reduceIte, Nat.reduceEqDiff])
      | (refine AWP.ret ?_; try dsimp only [thn, inBlk])
      | (refine AWP.condT ?_ ?_; (focus (simp [go_sem, h4']; done)))
      | (refine AWP.condF ?_ ?_; (focus (simp [go_sem, h4']; done)))
      | (apply AWP.rE; (focus (simp [go_sem, h4']; exact ⟨rfl, rfl⟩)); try dsimp only [thn, inBlk])
      | fail)
    simp [bodyQ, thn, inBlk, resA, resV, go_sem]
  have h4' : ¬ (4000 : Int) < data.length := by omega
  by_cases h100 : 100 < zs.length
  · have h100' : (100 : Int) < zs.length := by omega
    (repeat' first
      | refine AWP.seq ?_
      | refine AWP.block ?_
      | (refine AWP.skip ?_; try dsimp only [thn, inBlk])
      | (refine AWP.exit ?_; try simp only [thn, inBlk, if_true, reduceIte, Nat.reduceEqDiff])
      | (refine AWP.ret ?_; try dsimp only [thn, inBlk])
      | (refine AWP.condT ?_ ?_; (focus (simp [go_sem, h4', h100']; done)))
      | (refine AWP.condF ?_ ?_; (focus (simp [go_sem, h4', h100']; done)))
      | (apply AWP.rE; (focus (simp [go_sem, h4', h100']; exact ⟨rfl, rfl⟩)); try dsimp only [thn, inBlk])
      | fail)
    simp [bodyQ, thn, inBlk, resA, resV, go_sem]
  have h100' : ¬ (100 : Int) < zs.length := by omega
  (repeat' first
    | refine AWP.seq ?_
    | refine AWP.block ?_
    | (refine AWP.skip ?_; try dsimp only [thn, inBlk])
    | (refine AWP.exit ?_; try simp only [thn, inBlk, if_true, reduceIte, Nat.reduceEqDiff])
    | (refine AWP.ret ?_; try dsimp only [thn, inBlk])
    | (refine AWP.condT ?_ ?_; (focus (simp [go_sem, h4', h100']; done)))
    | (refine AWP.condF ?_ ?_; (focus (simp [go_sem, h4', h100']; done)))
    | (apply AWP.rE; (focus (simp [go_sem, h4', h100']; exact ⟨rfl, rfl⟩)); try dsimp only [thn, inBlk])
    | fail)
  refine AWP.callE (by simp [go_sem]; exact ⟨rfl, rfl, rfl, rfl, rfl⟩) (by kernel_rfl) ?_
  refine (new_calls k1).mono ?_
  rintro r h2 ⟨i, rfl, k2⟩
  refine awpL_toCall (by simp [go_sem]; exact ⟨rfl, rfl, rfl, rfl, rfl⟩) (by kernel_rfl) ?_
  refine (new_calls k2).mono ?_
  rintro r h3 ⟨i2, rfl, k3⟩
  refine awpL_restE (by simp [go_sem]; exact ⟨rfl, rfl⟩) ?_; try dsimp only [thn, inBlk]
  (repeat' first
    | refine AWP.seq ?_
    | refine AWP.block ?_
    | (refine AWP.skip ?_; try dsimp only [thn, inBlk])
    | (refine AWP.exit ?_; try simp only [thn, inBlk, if_true, reduceIte, Nat.reduceEqDiff])
    | (refine AWP.ret ?_; try dsimp only [thn, inBlk])
    | (refine AWP.condT ?_ ?_; (focus (simp [go_sem]; done)))
    | (refine AWP.condF ?_ ?_; (focus (simp [go_sem]; done)))
    | (apply AWP.rE; (focus (simp [go_sem]; exact ⟨rfl, rfl⟩)); try dsimp only [thn, inBlk])
    | fail)
  refine AWP.callE (by simp [go_sem]; exact ⟨rfl, rfl, rfl, rfl, rfl⟩) (by kernel_rfl) ?_
  refine (feed_calls (bs := data) (to_rdz k3.b1) (fun hh kk => hp.of_old hb kk) (by omega) (by simp [rd0])).mono ?_
  rintro r h4 ⟨a4, c4, rfl, k4⟩
  have hE : (feedR rd0 data).br = (fin rd0 data).br := feedR_br (by simp [rd0])
  have hW := feedR_out (s := rd0) (l := data) 0 (by simp [rd0])
  have hWI := feedR_RI (s := rd0) (l := data) (by simp [rd0])
  generalize feedR rd0 data = F1 at k4 hE hW hWI ⊢
  have hWl := hWI.out
  refine awpL_restE (by simp [go_sem]; exact ⟨rfl, rfl⟩) ?_; try dsimp only [thn, inBlk]
  (repeat' first
    | refine AWP.seq ?_
    | refine AWP.block ?_
    | (refine AWP.skip ?_; try dsimp only [thn, inBlk])
    | (refine AWP.exit ?_; try simp only [thn, inBlk, if_true, reduceIte, Nat.reduceEqDiff])
    | (refine AWP.ret ?_; try dsimp only [thn, inBlk])
    | (refine AWP.condT ?_ ?_; (focus (simp [go_sem]; done)))
    | (refine AWP.condF ?_ ?_; (focus (simp [go_sem]; done)))
    | (apply AWP.rE; (focus (simp [go_sem]; exact ⟨rfl, rfl⟩)); try dsimp only [thn, inBlk])
    | fail)
  have kg : Own _ _ (tels (.slice (some ⟨h4.next, 0, none⟩) 0 0) [] :: _) := brecs_iff.2 ⟨[], rfl, (k4.push (.row [] 24 4 true false)).os_mk (n := 0) (cap := 0) (off := 0) (cs := []) (Nat.le_refl _) (by simp) (by simp)⟩
  refine AWP.loopR [1, 6, 7, 8, 9, 10, 11, 12] (fun m s h' => ∃ (n : Nat) (P al : List UInt8) (S : Rd) (got : List Tl) (last : Int) (ga ra : Option Addr) (gc rc : Nat), n ≤ zs.length + 1 ∧ data = P ++ al ∧ PI P S got last ∧ m = (zs.length - n) + al.length ∧ (n = zs.length + 1 → al = []) ∧
    s = ⟨90, [(1, .slice za zs.length zc), (6, ptr i2), (7, .slice a4 F1.out.length c4), (8, .int .i64 F1.br), (9, .slice ga got.length gc), (10, .int .i64 last), (11, .slice ra al.length rc), (12, .int .i64 n)]⟩ ∧
    Bytes h (.slice ra al.length rc) al ∧ Own h.asOld h' [rdz i2 S, tels (.slice ga got.length gc) got, tels (.slice a4 F1.out.length c4) F1.out]) ?_ ?_
  · exact ⟨_, 0, [], data, rd0, [], 0, some ⟨h4.next, 0, none⟩, va, 0, vc, by omega, rfl, PI.zero, rfl, by omega, by simp [go_sem], hp, to_rdz kg.b3.d3⟩
  rintro m s h5 ⟨n, P, al, S, got, last, ga, ra, gc, rc, hn, hdat, hPI, rfl, hne, rfl, hal, kt⟩
  have hPl : P.length + al.length = data.length := by rw [hdat, List.length_append]
  by_cases hz0 : al = []
  · subst hz0
    have hP : P = data := by rw [hdat, List.append_nil]
    subst hP
    have hla := hPI.la
    by_cases hE0 : F1.br = 0
    · rw [hE0] at hE ⊢
      rw [← hE] at hla
      subst hla
      rw [if_pos hE.symm] at hW
      have hgo := hPI.go rfl
      rw [← hW] at hgo
      obtain ⟨ac, hac, k6⟩ := brecs_iff.1 kt.b1
      have hgl := hPI.ln
      have hbods : Bods h.asOld (os 24 4 (.slice ga got.length gc) got.length (rcells pre got ac).flatten :: (rbods 5 got ac ++ [rdz i2 S, tels (.slice a4 F1.out.length c4) F1.out])) got ac := by
        intro hh kk q f p hf hp
        have hg : (rbods 5 got ac)[q]? = some (ob 5 (.slice p.1 f.2.length p.2) f.2) := by simp [rbods, List.getElem?_zipWith, hf, hp]
        exact (kk.tail.mem hg).ob_bytes
      (repeat' first
        | refine AWP.seq ?_
        | refine AWP.block ?_
        | (refine AWP.skip ?_; try dsimp only [thn, inBlk])
        | (refine AWP.exit ?_; try simp only [thn, inBlk, if_true, reduceIte, Nat.reduceEqDiff])
        | (refine AWP.ret ?_; try dsimp only [thn, inBlk])
        | (refine AWP.condT ?_ ?_; (focus (simp [go_sem]; done)))
        | (refine AWP.condF ?_ ?_; (focus (simp [go_sem]; done)))
        | (apply AWP.rE; (focus (simp [go_sem]; exact ⟨rfl, rfl⟩)); try dsimp only [thn, inBlk])
        | fail)
      refine AWP.callE (by simp [go_sem]; exact ⟨rfl, rfl, rfl, rfl, rfl⟩) (by kernel_rfl) ?_
      refine (put_calls (fs := got) (av := ac) k6 hac (fun hh kk => kk.os_sl) hbods (by omega) (fun f hf => by have := hPI.bd f hf; omega)).mono ?_
      rintro r h7 ⟨a7, c7, L, rfl, k7, hbr⟩
      refine awpL_toCall (by simp [go_sem]; exact ⟨rfl, rfl, rfl, rfl, rfl⟩) (by kernel_rfl) ?_
      refine (same_calls hbr (k7.rest.tail.rest.b1).brecs_read (by rw [hgo]; omega)).mono ?_
      rintro r h8 ⟨rfl, rfl⟩
      rw [show decide (putL got = F1.out) = true from decide_eq_true hgo]
      refine awpL_restE (by simp [go_sem]; exact ⟨rfl, rfl⟩) ?_; try dsimp only [thn, inBlk]
      (repeat' first
        | refine AWP.seq ?_
        | refine AWP.block ?_
        | (refine AWP.skip ?_; try dsimp only [thn, inBlk])
        | (refine AWP.exit ?_; try simp only [thn, inBlk, if_true, reduceIte, Nat.reduceEqDiff])
        | (refine AWP.ret ?_; try dsimp only [thn, inBlk])
        | (refine AWP.condT ?_ ?_; (focus (simp [go_sem]; done)))
        | (refine AWP.condF ?_ ?_; (focus (simp [go_sem]; done)))
        | (apply AWP.rE; (focus (simp [go_sem]; exact ⟨rfl, rfl⟩)); try dsimp only [thn, inBlk])
        | fail)
      simp [bodyQ, thn, inBlk, resA, resV, go_sem]
    · have hE1 : (F1.br == 0) = false := by simpa using hE0
      have hE2 : (F1.br != 0) = true := by simpa using hE0
      have hle : (last == F1.br) = true := by simp; rw [hla, hE]
      (repeat' first
        | refine AWP.seq ?_
        | refine AWP.block ?_
        | (refine AWP.skip ?_; try dsimp only [thn, inBlk])
        | (refine AWP.exit ?_; try simp only [thn, inBlk, if_true, reduceIte, Nat.reduceEqDiff])
        | (refine AWP.ret ?_; try dsimp only [thn, inBlk])
        | (refine AWP.condT ?_ ?_; (focus (simp [go_sem, hE1, hE2, hle]; done)))
        | (refine AWP.condF ?_ ?_; (focus (simp [go_sem, hE1, hE2, hle]; done)))
        | (apply AWP.rE; (focus (simp [go_sem, hE1, hE2, hle]; exact ⟨rfl, rfl⟩)); try dsimp only [thn, inBlk])
        | fail)
      simp [bodyQ, thn, inBlk, resA, resV, go_sem]
  have hlt : 0 < al.length := List.length_pos_iff.2 hz0
  have hlt' : (0 : Int) < al.length := by omega
  have hn2 : n ≤ zs.length := by
    rcases Nat.lt_or_ge n (zs.length + 1) with h1 | h1
    · omega
    · exact absurd (hne (by omega)) hz0
  (repeat' first
    | refine AWP.seq ?_
    | refine AWP.block ?_
    | (refine AWP.skip ?_; try dsimp only [thn, inBlk])
    | (refine AWP.exit ?_; try simp only [thn, inBlk, if_true, reduceIte, Nat.reduceEqDiff])
    | (refine AWP.ret ?_; try dsimp only [thn, inBlk])
    | (refine AWP.condT ?_ ?_; (focus (simp [go_sem, hlt]; done)))
    | (refine AWP.condF ?_ ?_; (focus (simp [go_sem, hlt]; done)))
    | (apply AWP.rE; (focus (simp [go_sem, hlt]; exact ⟨rfl, rfl⟩)); try dsimp only [thn, inBlk])
    | fail)
  refine AWP.cutT [1, 6, 7, 8, 9, 10, 11, 12, 13] (fun s h' => ∃ (q : Nat), q ≤ al.length ∧ (n = zs.length → q = al.length) ∧ s = ⟨90, [(1, .slice za zs.length zc), (6, ptr i2), (7, .slice a4 F1.out.length c4), (8, .int .i64 F1.br), (9, .slice ga got.length gc), (10, .int .i64 last), (11, .slice ra al.length rc), (12, .int .i64 n), (13, .int .i64 q)]⟩ ∧ h' = h5) ?_ ?_
  · by_cases hn3 : n < zs.length
    · have hn4 : (n : Int) < zs.length := by omega
      have hg : (zs.map (Value.int .i64))[n]? = some (.int .i64 zs[n]) := by simp [hn3]
      obtain ⟨bi, bo, c, e', sz, ti, ro, q1, q2, q3⟩ := (hz.of_old hb kt).at1 (P := Tryd.prog) (t := 44) Tryd.underlying44 tsz3 hn3 hg (kd := .i64)
      have wl : IntKind.i64.wrap ((al.length : Int) + 1) = ((al.length + 1 : Nat) : Int) := by rw [wI64 (by omega) (by omega)]; omega
      generalize zs[n] = z at *
      obtain ⟨x, hx, wx⟩ := and_mask z 65535 (by omega)
      have w0 : ((al.length : Int) + 1 = 0) = False := by simp; omega
      have wm : (x : Int).tmod ((al.length : Int) + 1) = ((x % (al.length + 1) : Nat) : Int) := tmod_nat x (al.length + 1)
      have hlt2 : x % (al.length + 1) < al.length + 1 := Nat.mod_lt _ (by omega)
      (repeat' first
        | refine AWP.seq ?_
        | refine AWP.block ?_
        | (refine AWP.skip ?_; try dsimp only [thn, inBlk])
        | (refine AWP.exit ?_; try simp only [thn, inBlk, if_true, reduceIte, Nat.reduceEqDiff])
        | (refine AWP.ret ?_; try dsimp only [thn, inBlk])
        | (refine AWP.condT ?_ ?_; (focus (simp [go_sem, hn3, q1, q2, q3, wl, w0, wx, wm]; done)))
        | (refine AWP.condF ?_ ?_; (focus (simp [go_sem, hn3, q1, q2, q3, wl, w0, wx, wm]; done)))
        | (apply AWP.rE; (focus (simp [go_sem, hn3, q1, q2, q3, wl, w0, wx, wm]; exact ⟨rfl, rfl⟩)); try dsimp only [thn, inBlk])
        | fail)
      exact ⟨x % (al.length + 1), by omega, fun e => absurd e (by omega), by simp [go_sem], rfl⟩
    · (repeat' first
        | refine AWP.seq ?_
        | refine AWP.block ?_
        | (refine AWP.skip ?_; try dsimp only [thn, inBlk])
        | (refine AWP.exit ?_; try simp only [thn, inBlk, if_true, reduceIte, Nat.reduceEqDiff])
        | (refine AWP.ret ?_; try dsimp only [thn, inBlk])
        | (refine AWP.condT ?_ ?_; (focus (simp [go_sem, hn3]; done)))
        | (refine AWP.condF ?_ ?_; (focus (simp [go_sem, hn3]; done)))
        | (apply AWP.rE; (focus (simp [go_sem, hn3]; exact ⟨rfl, rfl⟩)); try dsimp only [thn, inBlk])
        | fail)
      exact ⟨al.length, by omega, fun _ => rfl, by simp [go_sem], rfl⟩
  · rintro s h6 ⟨q, hq, hqn, rfl, rfl⟩
    have hs0 := (hal.of_old hb kt).piece (P := Tryd.prog) (t := 22) (e := 5) Tryd.underlying22 tsz5 (lo := 0) (hi := q) (by omega) hq (l := none) (u := some (.int .i64 q)) (.inl ⟨rfl, rfl⟩) (.inr ⟨.i64, rfl⟩)
    have hb0 := (hal.piece (P := Tryd.prog) (t := 22) (e := 5) Tryd.underlying22 tsz5 (lo := 0) (hi := q) (by omega) hq (l := none) (u := some (.int .i64 q)) (.inl ⟨rfl, rfl⟩) (.inr ⟨.i64, rfl⟩)).2
    have hs1 := hs0.1
    rw [List.drop_zero] at hb0
    have htl : (al.take q).length = q := by simp; omega
    have hpd := hPI.pd
    have hPN := hPI.next (Q := al.take q) (by rw [htl]; omega)
    (repeat' first
      | refine AWP.seq ?_
      | refine AWP.block ?_
      | (refine AWP.skip ?_; try dsimp only [thn, inBlk])
      | (refine AWP.exit ?_; try simp only [thn, inBlk, if_true, reduceIte, Nat.reduceEqDiff])
      | (refine AWP.ret ?_; try dsimp only [thn, inBlk])
      | (refine AWP.condT ?_ ?_; (focus (simp [go_sem]; done)))
      | (refine AWP.condF ?_ ?_; (focus (simp [go_sem]; done)))
      | (apply AWP.rE; (focus (simp [go_sem]; exact ⟨rfl, rfl⟩)); try dsimp only [thn, inBlk])
      | fail)
    refine AWP.callE (by simp [go_sem, hs1]; exact ⟨rfl, rfl, rfl, rfl, rfl⟩) (by kernel_rfl) ?_
    refine (feed_calls (bs := al.take q) kt (fun hh kk => hb0.of_old hb kk) (by omega) hpd.1).mono ?_
    rintro r h7 ⟨a7, c7, rfl, k7⟩
    have hFI := feedR_RI (s := S) (l := al.take q) hpd.1
    generalize feedR S (al.take q) = F at k7 hPN hFI ⊢
    have hFl := hFI.out
    have hgl := hPI.ln
    obtain ⟨a8, c8, h8, e8, k8⟩ := tels_app k7.b2 (by omega)
    have hb1 := (hal.piece (P := Tryd.prog) (t := 22) (e := 5) Tryd.underlying22 tsz5 (lo := q) (hi := al.length) hq (Nat.le_refl _) (l := some (.int .i64 q)) (u := none) (.inr ⟨.i64, rfl⟩) (.inl ⟨rfl, rfl⟩)).2
    have s5 := ((hal.of_old hb k7).piece (P := Tryd.prog) (t := 22) (e := 5) Tryd.underlying22 tsz5 (lo := q) (hi := al.length) hq (Nat.le_refl _) (l := some (.int .i64 q)) (u := none) (.inr ⟨.i64, rfl⟩) (.inl ⟨rfl, rfl⟩)).1
    have s6 := ((hal.of_old hb k8).piece (P := Tryd.prog) (t := 22) (e := 5) Tryd.underlying22 tsz5 (lo := q) (hi := al.length) hq (Nat.le_refl _) (l := some (.int .i64 q)) (u := none) (.inr ⟨.i64, rfl⟩) (.inl ⟨rfl, rfl⟩)).1
    rw [List.take_length] at hb1
    obtain ⟨a9, c9, e9⟩ := hb1.val
    rw [e9] at hb1 s5 s6
    have wn : IntKind.i64.wrap ((n : Int) + 1) = ((n + 1 : Nat) : Int) := by rw [wI64 (by omega) (by omega)]; omega
    refine awpL_restE (by simp [go_sem]; exact ⟨rfl, rfl⟩) ?_; try dsimp only [thn, inBlk]
    (repeat' first
      | refine AWP.seq ?_
      | refine AWP.block ?_
      | (refine AWP.skip ?_; try dsimp only [thn, inBlk])
      | (refine AWP.exit ?_; try simp only [thn, inBlk, if_true, reduceIte, Nat.reduceEqDiff])
      | (refine AWP.ret ?_; try dsimp only [thn, inBlk])
      | (refine AWP.condT ?_ ?_; (focus (simp [go_sem]; done)))
      | (refine AWP.condF ?_ ?_; (focus (simp [go_sem]; done)))
      | (apply AWP.rE; (focus (simp [go_sem]; exact ⟨rfl, rfl⟩)); try dsimp only [thn, inBlk])
      | fail)
    refine AWP.draw hmix [.n 0 [9], .n 1 [14], .n 3 [15], .n 4 [11], .n 5 [13], .n 6 [74, 75], .w 2 [70, 71] [6], .n 7 [72], .n 8 [73], .n 9 [76]] (by kernel_rfl) ?_
    refine awpD_writeR 6 (by rfl) (by rfl) (by simp [go_sem, e8, s5, s6]; exact ⟨rfl, rfl, rfl⟩) (by rfl) (by rfl) (by simp [go_sem]) (by simp [go_sem, e8, s5, s6]; exact ⟨rfl, rfl⟩) (by simp [still, go_sem, e8, s5, s6]) ?_
    refine awpD_restR (by rfl) (by simp [go_sem]; exact ⟨rfl, rfl, rfl⟩) ?_; try dsimp only [thn, inBlk]
    (repeat' first
      | refine AWP.seq ?_
      | refine AWP.block ?_
      | (refine AWP.skip ?_; try dsimp only [thn, inBlk])
      | (refine AWP.exit ?_; try simp only [thn, inBlk, if_true, reduceIte, Nat.reduceEqDiff])
      | (refine AWP.ret ?_; try dsimp only [thn, inBlk])
      | (refine AWP.condT ?_ ?_; (focus (simp [go_sem, wn]; done)))
      | (refine AWP.condF ?_ ?_; (focus (simp [go_sem, wn]; done)))
      | (apply AWP.rE; (focus (simp [go_sem, wn]; exact ⟨rfl, rfl⟩)); try dsimp only [thn, inBlk])
      | fail)
    have hdn : (al.drop q).length = al.length - q := by simp
    refine ⟨(zs.length - (n + 1)) + (al.drop q).length, by rw [hdn]; omega, n + 1, P ++ al.take q, al.drop q, F, got ++ F.out, F.br, a8, a9, c8, c9, by omega, ?_, hPN, rfl, ?_, ?_, hb1, ?_⟩
    · rw [List.append_assoc, List.take_append_drop]; exact hdat
    · intro e; exact List.drop_of_length_le (by have := hqn (by omega); omega)
    · simp [go_sem]
    · rw [List.length_append]; (refine Own.sbl ?_ (k8); repeat' first | exact Sbl.nil _ | with_reducible exact Sbl.rfl _ | (apply Sbl.cons) | (apply Sbl.skip) | with_reducible exact Fnd.head _ _ | (apply Fnd.tail))
end L22
