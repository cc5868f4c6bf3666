import Derived.Test.YtjlcednpohgamaaL17h
open Go Ab Go.Proofs
namespace L17
set_option autoImplicit false
set_option linter.unusedSimpArgs false
set_option linter.unusedVariables false

/-- Where the bytes so far have led. -/
structure FS (all r : List UInt8) (b : Int) (cnt : Nat) : Prop where
  good : b = 0 → ∃ fs, parse all = (fs, r, 0) ∧ fs.length = cnt
  bad : b ≠ 0 → r = []
  len : r.length + cnt ≤ all.length

theorem parse_rest : ∀ (l : List UInt8), (parse l).2.1.length + (parse l).1.length ≤ l.length := fun l => by
  match e : nxt l 0 with
  | (none, r', b) =>
    rw [parse_none e]; simp
  | (some f, r', b) =>
    have hl := nxt_len e
    have := parse_rest r'
    rw [parse_some e]; simp; omega
termination_by l => l.length

theorem parse_short : ∀ (l : List UInt8), ∀ f ∈ (parse l).1, f.2.length ≤ 512 := fun l => by
  match e : nxt l 0 with
  | (none, r', b) =>
    rw [parse_none e]; simp
  | (some f, r', b) =>
    have hl := nxt_len e
    have h5 := (nxt_some e).2
    have := parse_short r'
    rw [parse_some e]
    intro g hg
    rcases List.mem_cons.1 hg with rfl | hg
    · exact h5
    · exact this g hg
termination_by l => l.length

/-- A frame's bytes, to be turned; how it is read meanwhile; and the frames again. -/
theorem body_at {O : Old} {h : AHeap} {R : List Chunk} {v : Value} {fs : List Fr} (k : Own O h (frs v fs :: R)) {j : Nat} (hj : j < fs.length) :
    ∃ (a : Option Addr) (cap : Nat) (R' : List Chunk), Own O h (ob 5 (.slice a fs[j].2.length cap) fs[j].2 :: R') ∧
      (∀ hh, Own O hh R' → ∃ i off c e' sz' ti ro, indexAddrP Try.prog 27 v (.int .i64 j) = some (.pointer (some ⟨i, off, none⟩)) ∧ hh.obj i = some (.row c e' sz' ti ro) ∧ c[off + 1]? = some (.slice a fs[j].2.length cap)) ∧
      ∀ h' bs', bs'.length = fs[j].2.length → Own O h' (ob 5 (.slice a fs[j].2.length cap) bs' :: R') → Own O h' (frs v (fs.set j (fs[j].1, bs')) :: R) := by
  obtain ⟨ac, R', hac, hb⟩ := Own.brecs_body k hj
  have hja : j < ac.length := by omega
  obtain ⟨k1, k2, k3⟩ := hb ac[j] (List.getElem?_eq_getElem hja)
  refine ⟨ac[j].1, ac[j].2, R', k1, fun hh kk => ?_, k3⟩
  obtain ⟨i, off, c, e', sz', ti, ro, q1, q2, q3, q4, q5⟩ := (k2 hh kk).record (P := Try.prog) (t := 27) Try.underlying27 tsz36 (rcells_all (pre := pre) (fs := fs) (sz := 2) (fun x => rfl) ac) (rcells_length hac) hj (kd := .i64)
  have e1 : (rcells pre fs ac)[j]'(by rw [rcells_length hac]; exact hj) = pre fs[j].1 ++ [.slice ac[j].1 fs[j].2.length ac[j].2] := by simp [rcells, rec1]
  rw [e1] at q5
  exact ⟨i, off, c, e', sz', ti, ro, q1, q2, q5 1 _ rfl⟩

set_option maxHeartbeats 8000000 in
theorem feeds_calls {h : AHeap} {v : Value} {ps : List (List UInt8)} (hb : h.base = h.next) (hp : Pcs h v ps) (hl : ps.length ≤ 9223372036854775807) :
    ACalls Try.prog 3 #[v] h fun r _ => r = .bool true := by
  refine Own.of_wf fun k0 => ?_
  obtain ⟨va, vc, rfl⟩ := hp.val
  refine ACalls.of_awp (args := [.slice va ps.length vc]) (n := 141) Try.func3 rfl rfl (by show 1 ≤ 141; omega) ?_
  (repeat' first
    | refine AWP.seq ?_
    | refine AWP.block ?_
    | (refine AWP.skip ?_; try dsimp only [thn, inBlk])
    | (refine AWP.exit ?_; try simp only [thn, inBlk, if_true])
    | (refine AWP.ret ?_; try dsimp only [thn, inBlk])
    | (refine AWP.condT ?_ ?_; (focus (simp [go_sem]; done)))
    | (refine AWP.condF ?_ ?_; (focus (simp [go_sem]; done)))
    | (apply AWP.rE; (focus (simp [go_sem]; exact ⟨rfl, rfl⟩)); try dsimp only [thn, inBlk])
    | fail)
  refine AWP.callE (by simp [go_sem]; exact ⟨rfl, rfl, rfl, rfl, rfl⟩) (by kernel_rfl) ?_
  refine (speaks_calls k0).mono ?_
  rintro r h1 ⟨rfl, k1⟩
  refine awpL_restE (by simp [go_sem]; exact ⟨rfl, rfl⟩) ?_; try dsimp only [thn, inBlk]
  by_cases h60 : 60 < ps.length
  · have h60' : (60 : Int) < ps.length := by omega
    (repeat' first
      | refine AWP.seq ?_
      | refine AWP.block ?_
      | (refine AWP.skip ?_; try dsimp only [thn, inBlk])
      | (refine AWP.exit ?_; try simp only [thn, inBlk, if_true])
      | (refine AWP.ret ?_; try dsimp only [thn, inBlk])
      | (refine AWP.condT ?_ ?_; (focus (simp [go_sem, h60']; done)))
      | (refine AWP.condF ?_ ?_; (focus (simp [go_sem, h60']; done)))
      | (apply AWP.rE; (focus (simp [go_sem, h60']; exact ⟨rfl, rfl⟩)); try dsimp only [thn, inBlk])
      | fail)
    simp [bodyQ, thn, inBlk, resA, resV, go_sem]
  have h60' : ¬ (60 : Int) < ps.length := by omega
  (repeat' first
    | refine AWP.seq ?_
    | refine AWP.block ?_
    | (refine AWP.skip ?_; try dsimp only [thn, inBlk])
    | (refine AWP.exit ?_; try simp only [thn, inBlk, if_true])
    | (refine AWP.ret ?_; try dsimp only [thn, inBlk])
    | (refine AWP.condT ?_ ?_; (focus (simp [go_sem, h60']; done)))
    | (refine AWP.condF ?_ ?_; (focus (simp [go_sem, h60']; done)))
    | (apply AWP.rE; (focus (simp [go_sem, h60']; exact ⟨rfl, rfl⟩)); try dsimp only [thn, inBlk])
    | fail)
  refine AWP.callE (by simp [go_sem]; exact ⟨rfl, rfl, rfl, rfl, rfl⟩) (by kernel_rfl) ?_
  refine (new_calls k1).mono ?_
  rintro r h2 ⟨i, rfl, k2⟩
  refine awpL_restE (by simp [go_sem]; exact ⟨rfl, rfl⟩) ?_; try dsimp only [thn, inBlk]
  (repeat' first
    | refine AWP.seq ?_
    | refine AWP.block ?_
    | (refine AWP.skip ?_; try dsimp only [thn, inBlk])
    | (refine AWP.exit ?_; try simp only [thn, inBlk, if_true])
    | (refine AWP.ret ?_; try dsimp only [thn, inBlk])
    | (refine AWP.condT ?_ ?_; (focus (simp [go_sem]; done)))
    | (refine AWP.condF ?_ ?_; (focus (simp [go_sem]; done)))
    | (apply AWP.rE; (focus (simp [go_sem]; exact ⟨rfl, rfl⟩)); try dsimp only [thn, inBlk])
    | fail)
  refine AWP.loopR [3, 4, 5, 6, 27, 28, 29] (fun m s h' => ∃ (j : Nat) (all r : List UInt8) (b : Int) (cnt : Nat) (aw : Option Addr) (cw : Nat), j ≤ ps.length ∧ m = ps.length - j ∧
    s = ⟨141, [(3, ptr i), (4, .slice aw all.length cw), (5, .int .i64 cnt), (6, .int .i64 b), (27, .slice va ps.length vc), (28, .int .i64 ps.length), (29, .int .i64 j)]⟩ ∧
    FS all r b cnt ∧ all.length ≤ 24000 ∧ Own h.asOld h' [rdr i r b, ob 5 (.slice aw all.length cw) all]) ?_ ?_
  · exact ⟨_, 0, [], [], 0, 0, some ⟨h2.next, 0, none⟩, 0, by omega, rfl, by simp [go_sem], ⟨fun _ => ⟨[], parse_nil, rfl⟩, fun e => rfl, by simp⟩, by simp,
      (((k2.push (.row [] 5 1 true false)).row_any (n := 0) rfl : Own _ _ (ob 5 (.slice (some ⟨h2.next, 0, none⟩) 0 0) [] :: _)).b1)⟩
  rintro m s h' ⟨j, all, r, b, cnt, aw, cw, hj, rfl, rfl, fs0, hall, kt⟩
  by_cases hj2 : j < ps.length
  rotate_left
  · have hj3 : ¬ (j : Int) < ps.length := by omega
    (repeat' first
      | refine AWP.seq ?_
      | refine AWP.block ?_
      | (refine AWP.skip ?_; try dsimp only [thn, inBlk])
      | (refine AWP.exit ?_; try simp only [thn, inBlk, if_true])
      | (refine AWP.ret ?_; try dsimp only [thn, inBlk])
      | (refine AWP.condT ?_ ?_; (focus (simp [go_sem, hj3]; done)))
      | (refine AWP.condF ?_ ?_; (focus (simp [go_sem, hj3]; done)))
      | (apply AWP.rE; (focus (simp [go_sem, hj3]; exact ⟨rfl, rfl⟩)); try dsimp only [thn, inBlk])
      | fail)
    simp [bodyQ, thn, inBlk, resA, resV, go_sem]
  have hj3 : (j : Int) < ps.length := by omega
  have wj : IntKind.i64.wrap ((j : Int) + 1) = ((j + 1 : Nat) : Int) := by rw [wI64 (by omega) (by omega)]; omega
  obtain ⟨cs, sl, hcs⟩ := hp
  obtain ⟨pa, pc, ee, bb⟩ := hcs j hj2
  obtain ⟨bi, bo, c, e', sz, ti, ro, q1, q2, q3⟩ := (sl.of_old hb kt).at1 (P := Try.prog) (t := 22) Try.underlying22 tsz26 hj2 ee (kd := .i64)
  have hx : ∀ {hh : AHeap} {L : List Chunk}, Own h.asOld hh L → Bytes hh (.slice pa ps[j].length pc) ps[j] := fun o => bb.of_old hb o
  generalize ps[j] = p at *
  have fall : (20000 : Int) < all.length ↔ 20000 < all.length := by omega
  by_cases h3 : 3000 < p.length
  · have h3' : (3000 : Int) < p.length := by omega
    (repeat' first
      | refine AWP.seq ?_
      | refine AWP.block ?_
      | (refine AWP.skip ?_; try dsimp only [thn, inBlk])
      | (refine AWP.exit ?_; try simp only [thn, inBlk, if_true])
      | (refine AWP.ret ?_; try dsimp only [thn, inBlk])
      | (refine AWP.condT ?_ ?_; (focus (simp [go_sem, hj3, q1, q2, q3, h3']; done)))
      | (refine AWP.condF ?_ ?_; (focus (simp [go_sem, hj3, q1, q2, q3, h3']; done)))
      | (apply AWP.rE; (focus (simp [go_sem, hj3, q1, q2, q3, h3']; exact ⟨rfl, rfl⟩)); try dsimp only [thn, inBlk])
      | fail)
    simp [bodyQ, thn, inBlk, resA, resV, go_sem]
  have h3' : ¬ (3000 : Int) < p.length := by omega
  by_cases h20 : 20000 < all.length
  · have h20' : (20000 : Int) < all.length := by omega
    (repeat' first
      | refine AWP.seq ?_
      | refine AWP.block ?_
      | (refine AWP.skip ?_; try dsimp only [thn, inBlk])
      | (refine AWP.exit ?_; try simp only [thn, inBlk, if_true])
      | (refine AWP.ret ?_; try dsimp only [thn, inBlk])
      | (refine AWP.condT ?_ ?_; (focus (simp [go_sem, hj3, q1, q2, q3, h3', h20']; done)))
      | (refine AWP.condF ?_ ?_; (focus (simp [go_sem, hj3, q1, q2, q3, h3', h20']; done)))
      | (apply AWP.rE; (focus (simp [go_sem, hj3, q1, q2, q3, h3', h20']; exact ⟨rfl, rfl⟩)); try dsimp only [thn, inBlk])
      | fail)
    simp [bodyQ, thn, inBlk, resA, resV, go_sem]
  have h20' : ¬ (20000 : Int) < all.length := by omega
  obtain ⟨a1, c1, h4, e1, k4⟩ := kt.copy (P := Try.prog) (t := 26) (xt := 26) (i := h'.next) Try.underlying26 tsz5 tby5 tz5 nI26 (fun _ o => hx o) (by omega) rfl
  (repeat' first
    | refine AWP.seq ?_
    | refine AWP.block ?_
    | (refine AWP.skip ?_; try dsimp only [thn, inBlk])
    | (refine AWP.exit ?_; try simp only [thn, inBlk, if_true])
    | (refine AWP.ret ?_; try dsimp only [thn, inBlk])
    | (refine AWP.condT ?_ ?_; (focus (simp [go_sem, hj3, q1, q2, q3, h3', h20', e1]; done)))
    | (refine AWP.condF ?_ ?_; (focus (simp [go_sem, hj3, q1, q2, q3, h3', h20', e1]; done)))
    | (apply AWP.rE; (focus (simp [go_sem, hj3, q1, q2, q3, h3', h20', e1]; exact ⟨rfl, rfl⟩)); try dsimp only [thn, inBlk])
    | fail)
  refine AWP.callE (by simp [go_sem]; exact ⟨rfl, rfl, rfl, rfl, rfl⟩) (by kernel_rfl) ?_
  have hfl := fs0.len
  refine (feed_calls (xs := p) k4.b1 (fun hh kk => kk.ob_bytes) fs0.bad (by omega)).mono ?_
  rintro v h5 ⟨a2, c2, rfl, k5⟩
  obtain ⟨F, r2, b2, hF⟩ : ∃ F r2 b2, feedR r b p = (F, r2, b2) := ⟨_, _, _, rfl⟩
  rw [hF] at k5 ⊢
  refine awpL_restE (by simp [go_sem]; exact ⟨rfl, rfl⟩) ?_; try dsimp only [thn, inBlk]
  (repeat' first
    | refine AWP.seq ?_
    | refine AWP.block ?_
    | (refine AWP.skip ?_; try dsimp only [thn, inBlk])
    | (refine AWP.exit ?_; try simp only [thn, inBlk, if_true])
    | (refine AWP.ret ?_; try dsimp only [thn, inBlk])
    | (refine AWP.condT ?_ ?_; (focus (simp [go_sem]; done)))
    | (refine AWP.condF ?_ ?_; (focus (simp [go_sem]; done)))
    | (apply AWP.rE; (focus (simp [go_sem]; exact ⟨rfl, rfl⟩)); try dsimp only [thn, inBlk])
    | fail)
  refine AWP.loopR [3, 4, 5, 6, 8, 9, 10, 11, 27, 28, 29, 51, 52] (fun m s h' => ∃ (d : Nat) (bs' : List UInt8), d ≤ p.length ∧ bs'.length = p.length ∧ m = p.length - d ∧
    s = ⟨141, [(3, ptr i), (4, .slice aw all.length cw), (5, .int .i64 cnt), (6, .int .i64 b), (8, .slice pa p.length pc), (9, .slice a1 p.length c1), (10, .slice a2 F.length c2), (11, .int .i64 b2), (27, .slice va ps.length vc), (28, .int .i64 ps.length), (29, .int .i64 j), (51, .int .i64 p.length), (52, .int .i64 d)]⟩ ∧
    Own h.asOld h' [ob 5 (.slice a1 p.length c1) bs', rdr i r2 b2, frs (.slice a2 F.length c2) F, ob 5 (.slice aw all.length cw) all]) ?_ ?_
  · exact ⟨_, 0, p, by omega, rfl, rfl, by simp [go_sem], k5.b2⟩
  rintro m s h' ⟨d, bs', hd, hbl, rfl, rfl, kd⟩
  by_cases hd2 : d < p.length
  · have hd3 : (d : Int) < p.length := by omega
    have wd : IntKind.i64.wrap ((d : Int) + 1) = d + 1 := wI64 (by omega) (by omega)
    obtain ⟨xi, xo, xc, xt, p1, p2, p3, kd2⟩ := kd.ob_write (P := Try.prog) (t := 26) Try.underlying26 tsz5 (j := d) (by omega) 238 (kd := .i64)
    have p3 : xo + 1 ≤ xc.length := p3
    (repeat' first
      | refine AWP.seq ?_
      | refine AWP.block ?_
      | (refine AWP.skip ?_; try dsimp only [thn, inBlk])
      | (refine AWP.exit ?_; try simp only [thn, inBlk, if_true])
      | (refine AWP.ret ?_; try dsimp only [thn, inBlk])
      | (refine AWP.condT ?_ ?_; (focus (simp [go_sem, hd3, p1, p2, p3, wd]; done)))
      | (refine AWP.condF ?_ ?_; (focus (simp [go_sem, hd3, p1, p2, p3, wd]; done)))
      | (apply AWP.rE; (focus (simp [go_sem, hd3, p1, p2, p3, wd]; exact ⟨rfl, rfl⟩)); try dsimp only [thn, inBlk])
      | fail)
    exact ⟨p.length - (d + 1), by omega, d + 1, bs'.set d 238, by omega, by simp [hbl], rfl, by simp [go_sem], kd2⟩
  have hd3 : ¬ (d : Int) < p.length := by omega
  obtain rfl : d = p.length := by omega
  have k6 := kd.tail
  by_cases hb0 : b = 0
  rotate_left
  · have hb1 : (b != 0) = true := by simpa using hb0
    obtain ⟨rfl, rfl, rfl⟩ : F = [] ∧ r2 = [] ∧ b2 = b := by
      simp only [feedR, if_neg hb0] at hF
      cases hF; exact ⟨rfl, rfl, rfl⟩
    (repeat' first
      | refine AWP.seq ?_
      | refine AWP.block ?_
      | (refine AWP.skip ?_; try dsimp only [thn, inBlk])
      | (refine AWP.exit ?_; try simp only [thn, inBlk, if_true])
      | (refine AWP.ret ?_; try dsimp only [thn, inBlk])
      | (refine AWP.condT ?_ ?_; (focus (simp [go_sem, hd3, hb1]; done)))
      | (refine AWP.condF ?_ ?_; (focus (simp [go_sem, hd3, hb1]; done)))
      | (apply AWP.rE; (focus (simp [go_sem, hd3, hb1]; exact ⟨rfl, rfl⟩)); try dsimp only [thn, inBlk])
      | fail)
    refine AWP.callE (by simp [go_sem, hb1]; exact ⟨rfl, rfl, rfl, rfl, rfl⟩) (by kernel_rfl) ?_
    refine (rest_calls k6).mono ?_
    rintro v h7 ⟨rfl, rfl⟩
    refine awpL_restE (by simp [go_sem]; exact ⟨rfl, rfl⟩) ?_; try dsimp only [thn, inBlk]
    (repeat' first
      | refine AWP.seq ?_
      | refine AWP.block ?_
      | (refine AWP.skip ?_; try dsimp only [thn, inBlk])
      | (refine AWP.exit ?_; try simp only [thn, inBlk, if_true])
      | (refine AWP.ret ?_; try dsimp only [thn, inBlk])
      | (refine AWP.condT ?_ ?_; (focus (simp [go_sem, wj]; done)))
      | (refine AWP.condF ?_ ?_; (focus (simp [go_sem, wj]; done)))
      | (apply AWP.rE; (focus (simp [go_sem, wj]; exact ⟨rfl, rfl⟩)); try dsimp only [thn, inBlk])
      | fail)
    exact ⟨ps.length - (j + 1), by omega, j + 1, all, [], b2, cnt, aw, cw, by omega, rfl, by simp [go_sem], ⟨fun e => absurd e hb0, fun _ => rfl, by simp; omega⟩, hall, k6.d1⟩
  subst hb0
  obtain ⟨fs, hpa, hcnt⟩ := fs0.good rfl
  have happ := parse_append hpa p
  obtain ⟨a5, c5, h5, e5, k7⟩ := k6.b2.appB (P := Try.prog) (t := 26) (xt := 26) Try.underlying26 tsz5 tby5 tz5 nI26 (hx k6).src (by omega)
  (repeat' first
    | refine AWP.seq ?_
    | refine AWP.block ?_
    | (refine AWP.skip ?_; try dsimp only [thn, inBlk])
    | (refine AWP.exit ?_; try simp only [thn, inBlk, if_true])
    | (refine AWP.ret ?_; try dsimp only [thn, inBlk])
    | (refine AWP.condT ?_ ?_; (focus (simp [go_sem, hd3, e5]; done)))
    | (refine AWP.condF ?_ ?_; (focus (simp [go_sem, hd3, e5]; done)))
    | (apply AWP.rE; (focus (simp [go_sem, hd3, e5]; exact ⟨rfl, rfl⟩)); try dsimp only [thn, inBlk])
    | fail)
  refine AWP.callE (by simp [go_sem]; exact ⟨rfl, rfl, rfl, rfl, rfl⟩) (by kernel_rfl) ?_
  refine (read_calls (bs := all ++ p) k7 (fun hh kk => (kk.bring 0 rfl rfl).ob_bytes) (by simp; omega)).mono ?_
  rintro v h6 ⟨a6, c6, rfl, k8⟩
  obtain ⟨G, r3, e3, hG⟩ : ∃ G r3 e3, parse (r ++ p) = (G, r3, e3) := ⟨_, _, _, rfl⟩
  rw [hG] at happ
  rw [happ] at k8 ⊢
  have hrl := parse_rest (r ++ p)
  have hsh := parse_short (r ++ p)
  rw [hG, List.length_append] at hrl
  rw [hG] at hsh
  have hF2 : (if e3 = 0 then (G, r3, e3) else ([], [], e3)) = (F, r2, b2) := by
    rw [← hF]; simp only [feedR, if_true, hG]
  simp only at k8 hrl hsh
  by_cases he : e3 = 0
  rotate_left
  · have he1 : (e3 != 0) = true := by simpa using he
    rw [if_neg he] at hF2
    obtain ⟨rfl, rfl, rfl⟩ : [] = F ∧ [] = r2 ∧ e3 = b2 := by cases hF2; exact ⟨rfl, rfl, rfl⟩
    refine awpL_restE (by simp [go_sem]; exact ⟨rfl, rfl⟩) ?_; try dsimp only [thn, inBlk]
    (repeat' first
      | refine AWP.seq ?_
      | refine AWP.block ?_
      | (refine AWP.skip ?_; try dsimp only [thn, inBlk])
      | (refine AWP.exit ?_; try simp only [thn, inBlk, if_true])
      | (refine AWP.ret ?_; try dsimp only [thn, inBlk])
      | (refine AWP.condT ?_ ?_; (focus (simp [go_sem, he1]; done)))
      | (refine AWP.condF ?_ ?_; (focus (simp [go_sem, he1]; done)))
      | (apply AWP.rE; (focus (simp [go_sem, he1]; exact ⟨rfl, rfl⟩)); try dsimp only [thn, inBlk])
      | fail)
    refine AWP.callE (by simp [go_sem]; exact ⟨rfl, rfl, rfl, rfl, rfl⟩) (by kernel_rfl) ?_
    refine (rest_calls k8.b2).mono ?_
    rintro v h7 ⟨rfl, rfl⟩
    refine awpL_restE (by simp [go_sem]; exact ⟨rfl, rfl⟩) ?_; try dsimp only [thn, inBlk]
    (repeat' first
      | refine AWP.seq ?_
      | refine AWP.block ?_
      | (refine AWP.skip ?_; try dsimp only [thn, inBlk])
      | (refine AWP.exit ?_; try simp only [thn, inBlk, if_true])
      | (refine AWP.ret ?_; try dsimp only [thn, inBlk])
      | (refine AWP.condT ?_ ?_; (focus (simp [go_sem, wj]; done)))
      | (refine AWP.condF ?_ ?_; (focus (simp [go_sem, wj]; done)))
      | (apply AWP.rE; (focus (simp [go_sem, wj]; exact ⟨rfl, rfl⟩)); try dsimp only [thn, inBlk])
      | fail)
    have k9 := k8.b2.d3.d1
    exact ⟨ps.length - (j + 1), by omega, j + 1, all ++ p, [], e3, cnt, a5, c5, by omega, rfl, by simp [go_sem], ⟨fun e => absurd e he, fun _ => rfl, by simp; omega⟩, by simp; omega, by rw [List.length_append]; exact k9⟩
  subst he
  rw [if_pos rfl] at hF2
  obtain ⟨rfl, rfl, rfl⟩ : G = F ∧ r3 = r2 ∧ 0 = b2 := by cases hF2; exact ⟨rfl, rfl, rfl⟩
  generalize hFG : fs ++ G = FG at *
  have hFGl : FG.length = cnt + G.length := by rw [← hFG, List.length_append, hcnt]
  obtain ⟨q5, q6⟩ := k8.brecs_read.piece (P := Try.prog) (t := 27) (fun x => rfl) Try.underlying27 tsz36 (lo := cnt) (hi := FG.length) (by omega) (Nat.le_refl _) (l := some (.int .i64 cnt)) (u := none) (.inr ⟨.i64, rfl⟩) (.inl ⟨rfl, rfl⟩)
  have hdr : (FG.drop cnt).take (FG.length - cnt) = G := by
    rw [← hFG, List.drop_append_of_le_length (by omega), show List.drop cnt fs = [] from List.drop_of_length_le (by omega), List.nil_append, List.take_of_length_le (by rw [List.length_append]; omega)]
  rw [hdr] at q6
  have hleft : left (FG, r3, 0) = r3.length := rfl
  refine awpL_restE (by simp [go_sem]; exact ⟨rfl, rfl⟩) ?_; try dsimp only [thn, inBlk]
  (repeat' first
    | refine AWP.seq ?_
    | refine AWP.block ?_
    | (refine AWP.skip ?_; try dsimp only [thn, inBlk])
    | (refine AWP.exit ?_; try simp only [thn, inBlk, if_true])
    | (refine AWP.ret ?_; try dsimp only [thn, inBlk])
    | (refine AWP.condT ?_ ?_; (focus (simp [go_sem]; done)))
    | (refine AWP.condF ?_ ?_; (focus (simp [go_sem]; done)))
    | (apply AWP.rE; (focus (simp [go_sem]; exact ⟨rfl, rfl⟩)); try dsimp only [thn, inBlk])
    | fail)
  refine AWP.callE (by simp [go_sem, q5]; exact ⟨rfl, rfl, rfl, rfl, rfl⟩) (by kernel_rfl) ?_
  refine (same_calls k8.b3.brecs_read q6 (by omega)).mono ?_
  rintro v h7 ⟨rfl, rfl⟩
  simp only [decide_true]
  refine awpL_toCall (by simp [go_sem]; exact ⟨rfl, rfl, rfl, rfl, rfl⟩) (by kernel_rfl) ?_
  refine (rest_calls k8.b2).mono ?_
  rintro v h8 ⟨rfl, rfl⟩
  refine awpL_restE (by simp [go_sem, hleft]; exact ⟨rfl, rfl⟩) ?_; try dsimp only [thn, inBlk]
  (repeat' first
    | refine AWP.seq ?_
    | refine AWP.block ?_
    | (refine AWP.skip ?_; try dsimp only [thn, inBlk])
    | (refine AWP.exit ?_; try simp only [thn, inBlk, if_true])
    | (refine AWP.ret ?_; try dsimp only [thn, inBlk])
    | (refine AWP.condT ?_ ?_; (focus (simp [go_sem]; done)))
    | (refine AWP.condF ?_ ?_; (focus (simp [go_sem]; done)))
    | (apply AWP.rE; (focus (simp [go_sem]; exact ⟨rfl, rfl⟩)); try dsimp only [thn, inBlk])
    | fail)
  refine AWP.loopR [3, 4, 5, 6, 10, 27, 28, 29, 118, 119] (fun m s h' => ∃ (d : Nat) (Gs : List Fr), d ≤ G.length ∧ Gs.length = G.length ∧ (∀ f ∈ Gs, f.2.length ≤ 512) ∧ m = G.length - d ∧
    s = ⟨141, [(3, ptr i), (4, .slice a5 (all.length + p.length) c5), (5, .int .i64 FG.length), (6, .int .i64 0), (10, .slice a2 G.length c2), (27, .slice va ps.length vc), (28, .int .i64 ps.length), (29, .int .i64 j), (118, .int .i64 G.length), (119, .int .i64 d)]⟩ ∧
    Own h.asOld h' [frs (.slice a2 G.length c2) Gs, rdr i r3 0, ob 5 (.slice a5 (all.length + p.length) c5) (all ++ p)]) ?_ ?_
  · exact ⟨_, 0, G, by omega, rfl, hsh, rfl, by simp [go_sem], k8.b3.d1.b2.b1⟩
  rintro m s h' ⟨d, Gs, hd, hGl, hGs, rfl, rfl, kd⟩
  by_cases hd2 : d < G.length
  rotate_left
  · have hd3 : ¬ (d : Int) < G.length := by omega
    (repeat' first
      | refine AWP.seq ?_
      | refine AWP.block ?_
      | (refine AWP.skip ?_; try dsimp only [thn, inBlk])
      | (refine AWP.exit ?_; try simp only [thn, inBlk, if_true])
      | (refine AWP.ret ?_; try dsimp only [thn, inBlk])
      | (refine AWP.condT ?_ ?_; (focus (simp [go_sem, hd3, wj]; done)))
      | (refine AWP.condF ?_ ?_; (focus (simp [go_sem, hd3, wj]; done)))
      | (apply AWP.rE; (focus (simp [go_sem, hd3, wj]; exact ⟨rfl, rfl⟩)); try dsimp only [thn, inBlk])
      | fail)
    exact ⟨ps.length - (j + 1), by omega, j + 1, all ++ p, r3, 0, FG.length, a5, c5, by omega, rfl, by simp [go_sem], ⟨fun _ => ⟨FG, happ, rfl⟩, fun e => absurd rfl e, by rw [List.length_append]; omega⟩, by simp; omega, by rw [List.length_append]; exact kd.tail⟩
  have hd3 : (d : Int) < G.length := by omega
  have wd : IntKind.i64.wrap ((d : Int) + 1) = d + 1 := wI64 (by omega) (by omega)
  obtain ⟨ba, bc, R', kb, hrd, hback⟩ := body_at kd (j := d) (by omega)
  have hgl : (Gs[d]'(by omega)).2.length ≤ 512 := hGs _ (List.getElem_mem _)
  obtain ⟨i1, o1, cc1, ee1, ss1, tt1, rr1, p1, p2, p3⟩ := hrd _ kb.tail
  generalize hn : (Gs[d]'(by omega)).2.length = n at *
  (repeat' first
    | refine AWP.seq ?_
    | refine AWP.block ?_
    | (refine AWP.skip ?_; try dsimp only [thn, inBlk])
    | (refine AWP.exit ?_; try simp only [thn, inBlk, if_true])
    | (refine AWP.ret ?_; try dsimp only [thn, inBlk])
    | (refine AWP.condT ?_ ?_; (focus (simp [go_sem, hd3, p1, p2, p3]; done)))
    | (refine AWP.condF ?_ ?_; (focus (simp [go_sem, hd3, p1, p2, p3]; done)))
    | (apply AWP.rE; (focus (simp [go_sem, hd3, p1, p2, p3]; exact ⟨rfl, rfl⟩)); try dsimp only [thn, inBlk])
    | fail)
  refine AWP.loopR [3, 4, 5, 6, 10, 16, 27, 28, 29, 118, 119, 127, 128] (fun m s h' => ∃ (q : Nat) (bs' : List UInt8), q ≤ n ∧ bs'.length = n ∧ m = n - q ∧
    s = ⟨141, [(3, ptr i), (4, .slice a5 (all.length + p.length) c5), (5, .int .i64 FG.length), (6, .int .i64 0), (10, .slice a2 G.length c2), (16, .int .i64 d), (27, .slice va ps.length vc), (28, .int .i64 ps.length), (29, .int .i64 j), (118, .int .i64 G.length), (119, .int .i64 d), (127, .int .i64 n), (128, .int .i64 q)]⟩ ∧
    Own h.asOld h' (ob 5 (.slice ba n bc) bs' :: R')) ?_ ?_
  · exact ⟨_, 0, _, by omega, hn, rfl, by simp [go_sem], kb⟩
  rintro m s h' ⟨q, bs', hq, hbl, rfl, rfl, kq⟩
  by_cases hq2 : q < n
  rotate_left
  · have hq3 : ¬ (q : Int) < n := by omega
    (repeat' first
      | refine AWP.seq ?_
      | refine AWP.block ?_
      | (refine AWP.skip ?_; try dsimp only [thn, inBlk])
      | (refine AWP.exit ?_; try simp only [thn, inBlk, if_true])
      | (refine AWP.ret ?_; try dsimp only [thn, inBlk])
      | (refine AWP.condT ?_ ?_; (focus (simp [go_sem, hq3, wd]; done)))
      | (refine AWP.condF ?_ ?_; (focus (simp [go_sem, hq3, wd]; done)))
      | (apply AWP.rE; (focus (simp [go_sem, hq3, wd]; exact ⟨rfl, rfl⟩)); try dsimp only [thn, inBlk])
      | fail)
    refine ⟨G.length - (d + 1), by omega, d + 1, Gs.set d ((Gs[d]'(by omega)).1, bs'), by omega, by simp [hGl], fun f hf => ?_, rfl, by simp [go_sem], hback _ _ hbl kq⟩
    rcases List.mem_or_eq_of_mem_set hf with hf | rfl
    · exact hGs f hf
    · simp only; omega
  have hq3 : (q : Int) < n := by omega
  have wq : IntKind.i64.wrap ((q : Int) + 1) = q + 1 := wI64 (by omega) (by omega)
  obtain ⟨i2, o2, cc2, ee2, ss2, tt2, rr2, p4, p5, p6⟩ := hrd _ kq.tail
  obtain ⟨xi, xo, xc, xt, q1, q2, q3, kq2⟩ := kq.ob_write (P := Try.prog) (t := 26) Try.underlying26 tsz5 (j := q) (by omega) 238 (kd := .i64)
  have q3 : xo + 1 ≤ xc.length := q3
  (repeat' first
    | refine AWP.seq ?_
    | refine AWP.block ?_
    | (refine AWP.skip ?_; try dsimp only [thn, inBlk])
    | (refine AWP.exit ?_; try simp only [thn, inBlk, if_true])
    | (refine AWP.ret ?_; try dsimp only [thn, inBlk])
    | (refine AWP.condT ?_ ?_; (focus (simp [go_sem, hq3, p4, p5, p6, q1, q2, q3, wq]; done)))
    | (refine AWP.condF ?_ ?_; (focus (simp [go_sem, hq3, p4, p5, p6, q1, q2, q3, wq]; done)))
    | (apply AWP.rE; (focus (simp [go_sem, hq3, p4, p5, p6, q1, q2, q3, wq]; exact ⟨rfl, rfl⟩)); try dsimp only [thn, inBlk])
    | fail)
  exact ⟨n - (q + 1), by omega, q + 1, bs'.set q 238, by omega, by simp [hbl], rfl, by simp [go_sem], kq2⟩
end L17
