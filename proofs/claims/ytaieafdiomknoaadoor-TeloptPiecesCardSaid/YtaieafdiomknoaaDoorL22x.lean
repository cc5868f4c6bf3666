import Derived.Test.YtaieafdiomknoaaDoorL22w
open Go Ab Go.Proofs
namespace L22
set_option autoImplicit false
set_option linter.unusedSimpArgs false
set_option linter.unusedVariables false

/-- A cell of a row that is one's own, set. -/
theorem os_upd {O : Old} {h : AHeap} {R : List Chunk} {P : Program} {t e : TypeId} {sz n : Nat} {v : Value} {cs : List Value} (ht : P.underlying t = some (.slice e)) (hs : tsz P e = some sz) (k : Own O h (os e sz v n cs :: R)) {j : Nat} (hj : j < n) {f : Nat} (hf : f < sz) {kd : IntKind} :
    ∃ i off c ti, indexAddrP P t v (.int kd j) = some (.pointer (some ⟨i, off, none⟩)) ∧ off + sz ≤ c.length ∧ Own O h (cell i (.row c e sz ti false) :: R) ∧ (∀ m, m < sz → c[off + m]? = cs[j * sz + m]?) ∧
      ∀ h' x R', Own O h' (cell i (.row (c.set (off + f) x) e sz ti false) :: R') → Own O h' (os e sz v n (cs.set (j * sz + f) x) :: R') := by
  rcases k.os_cases with ⟨rfl, h1, _⟩ | ⟨i, off, cap, c, ti, rfl, h1, h2, h3, k2⟩
  · omega
  have hmul : (j + 1) * sz ≤ n * sz := Nat.mul_le_mul_right _ hj
  have hmul2 : n * sz ≤ cap * sz := Nat.mul_le_mul_right _ h1
  have hsucc : (j + 1) * sz = j * sz + sz := Nat.succ_mul _ _
  refine ⟨i, off + j * sz, c, ti, ?_, by omega, k2, fun m hm => ?_, fun h' x R' k' => ?_⟩
  · simp only [indexAddrP, ht, hs]
    simp [hj]
  · rw [← h3, List.getElem?_take, if_pos (by omega), List.getElem?_drop, show off + j * sz + m = off + (j * sz + m) by omega]
  · refine k'.os_mk h1 (by rw [List.length_set]; exact h2) ?_
    rw [← h3]
    apply List.ext_getElem?
    intro q
    rw [List.getElem?_take, List.getElem?_drop, List.getElem?_set, List.getElem?_set, List.getElem?_take, List.getElem?_drop]
    by_cases hq : q < n * sz
    · rw [if_pos hq, if_pos hq]
      by_cases e1 : j * sz + f = q
      · rw [if_pos (by omega), if_pos e1, if_pos (by omega)]
        rw [if_pos (by rw [List.length_take, List.length_drop]; omega)]
      · rw [if_neg (by omega), if_neg e1]
    · rw [if_neg hq, if_neg (by omega), if_neg hq]

def Bods (O : Old) (L : List Chunk) (fs : List Tl) (ac : List (Option Addr × Nat)) : Prop := ∀ h, Own O h L → ∀ (j : Nat) (f : Tl) (p : Option Addr × Nat), fs[j]? = some f → ac[j]? = some p → Bytes h (.slice p.1 f.2.length p.2) f.2
abbrev trows (v : Value) (fs : List Tl) (ac : List (Option Addr × Nat)) : Chunk := os 24 4 v fs.length (rcells pre fs ac).flatten

theorem rcells_get {fs : List Tl} {ac : List (Option Addr × Nat)} {j : Nat} {f : Tl} {p : Option Addr × Nat} (hf : fs[j]? = some f) (hp : ac[j]? = some p) : (rcells pre fs ac)[j]? = some [.int .i64 f.1.1, .int .i64 f.1.2.1, .int .i64 f.1.2.2, .slice p.1 f.2.length p.2] := by
  simp [rcells, List.getElem?_zipWith, hf, hp, rec1]
theorem rcells_app {fs : List Tl} {ac : List (Option Addr × Nat)} {f : Tl} {p : Option Addr × Nat} (ha : ac.length = fs.length) : (rcells pre (fs ++ [f]) (ac ++ [p])).flatten = (rcells pre fs ac).flatten ++ [.int .i64 f.1.1, .int .i64 f.1.2.1, .int .i64 f.1.2.2, .slice p.1 f.2.length p.2] := by
  simp only [rcells]
  rw [List.zipWith_append ha.symm, List.flatten_append]
  simp [rec1]
theorem rcells_flen {fs : List Tl} {ac : List (Option Addr × Nat)} (ha : ac.length = fs.length) : (rcells pre fs ac).flatten.length = fs.length * 4 := by
  rw [flat_length (rcells_all (pre := pre) (sz := 4) (fun _ => rfl) ac), rcells_length ha]
/-- A row that is read, its address known. -/
theorem tl_row {h : AHeap} {v : Value} {fs : List Tl} {ac : List (Option Addr × Nat)} (ha : ac.length = fs.length) (sl : Sl 4 h v fs.length (rcells pre fs ac).flatten) {j : Nat} {f : Tl} {p : Option Addr × Nat} (hf : fs[j]? = some f) (hp : ac[j]? = some p) {kd : IntKind} :
    ∃ i off c e' sz' ti ro, indexAddrP Tryd.prog 33 v (.int kd j) = some (.pointer (some ⟨i, off, none⟩)) ∧ h.obj i = some (.row c e' sz' ti ro) ∧ c[off]? = some (.int .i64 f.1.1) ∧ c[off + 1]? = some (.int .i64 f.1.2.1) ∧ c[off + 2]? = some (.int .i64 f.1.2.2) ∧ c[off + 3]? = some (.slice p.1 f.2.length p.2) ∧ off + 4 ≤ c.length ∧
      (c.drop off).take 4 = [.int .i64 f.1.1, .int .i64 f.1.2.1, .int .i64 f.1.2.2, .slice p.1 f.2.length p.2] := by
  obtain ⟨hj, _⟩ := List.getElem?_eq_some_iff.1 hf
  obtain ⟨i, off, c, e', sz', ti, ro, q1, q2, q3, q4, q5⟩ := sl.record (P := Tryd.prog) (t := 33) Tryd.underlying33 tsz24 (rcells_all (pre := pre) (sz := 4) (fun _ => rfl) ac) (rcells_length ha) hj (kd := kd)
  have e1 : (rcells pre fs ac)[j]'(by rw [rcells_length ha]; exact hj) = [.int .i64 f.1.1, .int .i64 f.1.2.1, .int .i64 f.1.2.2, .slice p.1 f.2.length p.2] := by
    have := rcells_get hf hp
    rw [List.getElem?_eq_getElem (by rw [rcells_length ha]; exact hj)] at this
    exact Option.some.inj this
  rw [e1] at q4 q5
  exact ⟨i, off, c, e', sz', ti, ro, q1, q2, q5 0 _ rfl, q5 1 _ rfl, q5 2 _ rfl, q5 3 _ rfl, q3, q4⟩

theorem bods_app {O : Old} {L : List Chunk} {fs : List Tl} {ac : List (Option Addr × Nat)} {f : Tl} {p : Option Addr × Nat} (ha : ac.length = fs.length) (hb : Bods O L fs ac) (hn : ∀ h, Own O h L → Bytes h (.slice p.1 f.2.length p.2) f.2) : Bods O L (fs ++ [f]) (ac ++ [p]) := by
  intro h k j f' p' hf hp
  by_cases hj : j < fs.length
  · rw [List.getElem?_append_left hj] at hf
    rw [List.getElem?_append_left (by omega)] at hp
    exact hb h k j f' p' hf hp
  · rw [List.getElem?_append_right (by omega)] at hf hp
    rw [ha] at hp
    by_cases h0 : j - fs.length = 0
    · rw [h0] at hf hp
      obtain rfl := Option.some.inj hf
      obtain rfl := Option.some.inj hp
      exact hn h k
    · rw [List.getElem?_eq_none (by simp; omega)] at hf; cases hf

set_option maxHeartbeats 8000000 in
theorem put_calls {O : Old} {h : AHeap} {R : List Chunk} {v : Value} {fs : List Tl} {av : List (Option Addr × Nat)} (k : Own O h R) (hav : av.length = fs.length) (hv : ∀ h, Own O h R → Sl 4 h v fs.length (rcells pre fs av).flatten) (hb : Bods O R fs av) (hm : fs.length ≤ 1000000) (hd : ∀ f ∈ fs, f.2.length ≤ 10000000) :
    ACalls Tryd.prog 16 #[v] h fun r h' => ∃ a cap L, r = .slice a (putL fs).length cap ∧ Own O h' (L ++ R) ∧ BR pre 4 h' (.slice a (putL fs).length cap) (putL fs) := by
  obtain ⟨va, vc, rfl⟩ := (hv h k).val
  refine ACalls.of_awp (args := [.slice va fs.length vc]) (n := 61) Tryd.func16 rfl rfl (by show 1 ≤ 61; omega) ?_
  have k1 : Own O (h.push (.row [] 24 4 true false)) (os 24 4 (.slice (some ⟨h.next, 0, none⟩) 0 0) 0 [] :: R) := (k.push (.row [] 24 4 true false)).os_mk (n := 0) (cap := 0) (off := 0) (cs := []) (Nat.le_refl _) (by simp) (by simp)
  (repeat' first
    | refine AWP.seq ?_
    | refine AWP.block ?_
    | (refine AWP.skip ?_; try dsimp only [thn, inBlk])
    | (refine AWP.exit ?_; try simp only [thn, inBlk, if_true, reduceIte, Nat.reduceEqDiff])
    | (refine AWP.ret ?_; try dsimp only [thn, inBlk])
    | (refine AWP.condT ?_ ?_; (focus (simp [go_sem]; done)))
    | (refine AWP.condF ?_ ?_; (focus (simp [go_sem]; done)))
    | (apply AWP.rE; (focus (simp [go_sem]; exact ⟨rfl, rfl⟩)); try dsimp only [thn, inBlk])
    | fail)
  refine AWP.loopR [0, 3, 4] (fun m s h' => ∃ j out ac L a cap, j ≤ fs.length ∧ m = fs.length - j ∧ s = ⟨61, [(0, .slice va fs.length vc), (3, .slice a out.length cap), (4, .int .i64 (j : Nat))]⟩ ∧ out.length ≤ j ∧ ac.length = out.length ∧ (∀ f ∈ out, f.2.length ≤ j * 10000000) ∧ putL fs = (fs.drop j).foldl putStep out ∧ Bods O (L ++ R) out ac ∧ Own O h' (trows (.slice a out.length cap) out ac :: (L ++ R))) ?_ ?_
  · exact ⟨_, 0, [], [], [], _, _, by omega, rfl, rfl, by simp, rfl, by simp, rfl, (fun h k j f p hf => by simp at hf), k1⟩
  rintro m s hB ⟨j, out, ac, L, a, cap, hj, rfl, rfl, hol, hal, hod, hI, hbo, kB⟩
  by_cases hjm : j < fs.length
  rotate_left
  · have hjm' : ¬ (j : Int) < fs.length := by omega
    have hdr : fs.drop j = [] := List.drop_eq_nil_iff.2 (by omega)
    rw [hdr] at hI
    have hI : putL fs = out := hI
    (repeat' first
      | refine AWP.seq ?_
      | refine AWP.block ?_
      | (refine AWP.skip ?_; try dsimp only [thn, inBlk])
      | (refine AWP.exit ?_; try simp only [thn, inBlk, if_true, reduceIte, Nat.reduceEqDiff])
      | (refine AWP.ret ?_; try dsimp only [thn, inBlk])
      | (refine AWP.condT ?_ ?_; (focus (simp [go_sem, hjm']; done)))
      | (refine AWP.condF ?_ ?_; (focus (simp [go_sem, hjm']; done)))
      | (apply AWP.rE; (focus (simp [go_sem, hjm']; exact ⟨rfl, rfl⟩)); try dsimp only [thn, inBlk])
      | fail)
    simp [bodyQ, thn, inBlk, resA, resV, go_sem, hI]
    exact ⟨_, _, ⟨rfl, rfl⟩, ⟨L, kB.tail⟩, ⟨ac, hal, kB.os_sl, hbo _ kB.tail⟩⟩
  have hjm' : (j : Int) < fs.length := by omega
  have w1 : IntKind.i64.wrap ((j : Int) + 1) = ((j + 1 : Nat) : Int) := by rw [wI64 (by omega) (by omega)]; omega
  obtain ⟨f, hf⟩ : ∃ f, fs[j]? = some f := ⟨_, List.getElem?_eq_getElem hjm⟩
  obtain ⟨p, hp⟩ : ∃ p, av[j]? = some p := ⟨_, List.getElem?_eq_getElem (by omega)⟩
  have hdr : fs.drop j = f :: fs.drop (j + 1) := by rw [List.drop_eq_getElem_cons hjm]; rw [List.getElem?_eq_getElem hjm] at hf; rw [Option.some.inj hf]
  rw [hdr, List.foldl_cons] at hI
  have hfd := hd f (List.mem_of_getElem? hf)
  obtain ⟨i0, o0, c0, e0, z0, ti0, ro0, p0, q0, g0, g1, g2, g3, l0, f0⟩ := tl_row hav (hv hB kB.tail.rest) hf hp (kd := .i64)
  obtain ⟨⟨fk, fv, fo⟩, fb⟩ := f
  obtain ⟨pa, pc⟩ := p
  dsimp only at g0 g1 g2 g3 f0 hfd
  have happ : putStep out ((fk, fv, fo), fb) = out ++ [((fk, fv, fo), fb)] → ∃ a2 cap2 h3, appendW Tryd.prog (hB.push (.row [.int .i64 fk, .int .i64 fv, .int .i64 fo, .slice pa fb.length pc] 24 4 true false)) 33 33 (.slice a out.length cap) (.slice (some ⟨hB.next, 0, none⟩) 1 1) = some (.slice a2 (out.length + 1) cap2, h3) ∧
      ∃ j' out' ac' L', j' ≤ fs.length ∧ fs.length - (j + 1) = fs.length - j' ∧ ∃ a' cap', (⟨61, [(0, .slice va fs.length vc), (3, .slice a2 (out.length + 1) cap2), (4, .int .i64 ((j + 1 : Nat) : Int))]⟩ : St) = ⟨61, [(0, .slice va fs.length vc), (3, .slice a' out'.length cap'), (4, .int .i64 (j' : Nat))]⟩ ∧ out'.length ≤ j' ∧ ac'.length = out'.length ∧ (∀ f ∈ out', f.2.length ≤ j' * 10000000) ∧ putL fs = (fs.drop j').foldl putStep out' ∧ Bods O (L' ++ R) out' ac' ∧ Own O h3 (trows (.slice a' out'.length cap') out' ac' :: (L' ++ R)) := by
    intro he
    obtain ⟨a2, cap2, h3, e3, k3⟩ := Own.appN (P := Tryd.prog) (t := 33) (xt := 33) (m := 1) (xs := [.int .i64 fk, .int .i64 fv, .int .i64 fo, .slice pa fb.length pc]) Tryd.underlying33 tsz24 tby24 tz24 nI33 (by omega) (by omega) rfl kB rfl rfl rfl (by omega)
    refine ⟨a2, cap2, h3, e3, j + 1, out ++ [((fk, fv, fo), fb)], ac ++ [(pa, pc)], L, by omega, rfl, a2, cap2, by simp, by simp; omega, by simp [hal], ?_, by rw [hI, he], bods_app hal hbo (fun h k => hb h k.rest j _ _ hf hp), ?_⟩
    · intro g hg
      rcases List.mem_append.1 hg with hg | hg
      · exact Nat.le_trans (hod g hg) (Nat.mul_le_mul_right _ (by omega))
      · obtain rfl := List.mem_singleton.1 hg
        show fb.length ≤ _; omega
    · rw [trows, rcells_app hal, List.length_append, List.length_singleton]
      exact k3
  by_cases hk : fk = 1
  rotate_left
  · have hk' : (fk == 1) = false := by simpa using hk
    obtain ⟨a2, cap2, h3, e3, j', out', ac', L', hj', hm', a', cap', hs', r1, r2, r3, r4, r5, r6⟩ := happ (putStep_other _ _ hk)
    (repeat' first
      | refine AWP.seq ?_
      | refine AWP.block ?_
      | (refine AWP.skip ?_; try dsimp only [thn, inBlk])
      | (refine AWP.exit ?_; try simp only [thn, inBlk, if_true, reduceIte, Nat.reduceEqDiff])
      | (refine AWP.ret ?_; try dsimp only [thn, inBlk])
      | (refine AWP.condT ?_ ?_; (focus (simp [go_sem, hjm', w1, p0, q0, g0, g1, g2, g3, l0, f0, e3, hk']; done)))
      | (refine AWP.condF ?_ ?_; (focus (simp [go_sem, hjm', w1, p0, q0, g0, g1, g2, g3, l0, f0, e3, hk']; done)))
      | (apply AWP.rE; (focus (simp [go_sem, hjm', w1, p0, q0, g0, g1, g2, g3, l0, f0, e3, hk']; exact ⟨rfl, rfl⟩)); try dsimp only [thn, inBlk])
      | fail)
    exact ⟨fs.length - (j + 1), by omega, j', out', ac', L', a', cap', hj', hm', hs', r1, r2, r3, r4, r5, r6⟩
  have hk' : (fk == 1) = true := by simpa using hk
  rcases List.eq_nil_or_concat out with ho | ⟨o', y, ho⟩
  · have hpos : ¬ 0 < out.length := by rw [ho]; simp
    obtain ⟨a2, cap2, h3, e3, j', out', ac', L', hj', hm', a', cap', hs', r1, r2, r3, r4, r5, r6⟩ := happ (by rw [ho]; rfl)
    (repeat' first
      | refine AWP.seq ?_
      | refine AWP.block ?_
      | (refine AWP.skip ?_; try dsimp only [thn, inBlk])
      | (refine AWP.exit ?_; try simp only [thn, inBlk, if_true, reduceIte, Nat.reduceEqDiff])
      | (refine AWP.ret ?_; try dsimp only [thn, inBlk])
      | (refine AWP.condT ?_ ?_; (focus (simp [go_sem, hjm', w1, p0, q0, g0, g1, g2, g3, l0, f0, e3, hk', hpos]; done)))
      | (refine AWP.condF ?_ ?_; (focus (simp [go_sem, hjm', w1, p0, q0, g0, g1, g2, g3, l0, f0, e3, hk', hpos]; done)))
      | (apply AWP.rE; (focus (simp [go_sem, hjm', w1, p0, q0, g0, g1, g2, g3, l0, f0, e3, hk', hpos]; exact ⟨rfl, rfl⟩)); try dsimp only [thn, inBlk])
      | fail)
    exact ⟨fs.length - (j + 1), by omega, j', out', ac', L', a', cap', hj', hm', hs', r1, r2, r3, r4, r5, r6⟩
  rw [List.concat_eq_append] at ho
  have hol1 : out.length = o'.length + 1 := by rw [ho]; simp
  have hpos : 0 < out.length := by omega
  have w2 : IntKind.i64.wrap ((out.length : Int) - 1) = (o'.length : Int) := by rw [wI64 (by omega) (by omega)]; omega
  obtain ⟨ac', ⟨ya, yc⟩, hac⟩ : ∃ ac' p, ac = ac' ++ [p] := by
    rcases List.eq_nil_or_concat ac with e | ⟨ac', p, e⟩
    · rw [e] at hal; simp at hal; omega
    · exact ⟨ac', p, by rw [e, List.concat_eq_append]⟩
  have hal1 : ac'.length = o'.length := by have := hal; rw [hac, hol1] at this; simpa using this
  have hy : out[o'.length]? = some y := by rw [ho]; simp
  have hpy : ac[o'.length]? = some (ya, yc) := by rw [hac, ← hal1]; simp
  obtain ⟨i1, o1, c1, e1, z1, ti1, ro1, p1, q1, m0, m1, m2, m3, l1, n1⟩ := tl_row hal kB.os_sl hy hpy (kd := .i64)
  obtain ⟨⟨yk, yv, yo⟩, yb⟩ := y
  dsimp only at m0 m1 m2 m3 n1
  have hst := putStep_append o' ((yk, yv, yo), yb) ((fk, fv, fo), fb)
  rw [← ho] at hst
  by_cases hyk : yk = 1
  rotate_left
  · have hyk' : (yk == 1) = false := by simpa using hyk
    rw [if_neg (fun e => hyk e.2)] at hst
    obtain ⟨a2, cap2, h3, e3, j', out', ac', L', hj', hm', a', cap', hs', r1, r2, r3, r4, r5, r6⟩ := happ hst
    (repeat' first
      | refine AWP.seq ?_
      | refine AWP.block ?_
      | (refine AWP.skip ?_; try dsimp only [thn, inBlk])
      | (refine AWP.exit ?_; try simp only [thn, inBlk, if_true, reduceIte, Nat.reduceEqDiff])
      | (refine AWP.ret ?_; try dsimp only [thn, inBlk])
      | (refine AWP.condT ?_ ?_; (focus (simp [go_sem, hjm', w1, p0, q0, g0, g1, g2, g3, l0, f0, e3, hk', hpos, w2, p1, q1, m0, hyk']; done)))
      | (refine AWP.condF ?_ ?_; (focus (simp [go_sem, hjm', w1, p0, q0, g0, g1, g2, g3, l0, f0, e3, hk', hpos, w2, p1, q1, m0, hyk']; done)))
      | (apply AWP.rE; (focus (simp [go_sem, hjm', w1, p0, q0, g0, g1, g2, g3, l0, f0, e3, hk', hpos, w2, p1, q1, m0, hyk']; exact ⟨rfl, rfl⟩)); try dsimp only [thn, inBlk])
      | fail)
    exact ⟨fs.length - (j + 1), by omega, j', out', ac', L', a', cap', hj', hm', hs', r1, r2, r3, r4, r5, r6⟩
  have hyk' : (yk == 1) = true := by simpa using hyk
  rw [if_pos ⟨hk, hyk⟩] at hst
  have hyb : yb.length ≤ j * 10000000 := hod ((yk, yv, yo), yb) (List.mem_of_getElem? hy)
  have kP := kB.push (.row [] 5 1 true false)
  obtain ⟨_, _, c0p, _, _, _, _, p0p, q0p, _, _, _, g3p, _, _⟩ := tl_row hav (hv _ kP.tail.tail.rest) hf hp (kd := .i64)
  obtain ⟨_, _, c1p, _, _, _, _, p1p, q1p, _, _, _, m3p, _, _⟩ := tl_row hal kP.tail.os_sl hy hpy (kd := .i64)
  cases p0.symm.trans p0p
  cases p1.symm.trans p1p
  dsimp only at g3p m3p
  obtain ⟨a3, n3, h3, e3, k3⟩ := kB.copy (P := Tryd.prog) (t := 22) (xt := 22) (i := hB.next) Tryd.underlying22 tsz5 tby5 tz5 nI22 (fun hh kk => hbo hh kk.tail _ _ _ hy hpy) (by dsimp only; omega) rfl
  obtain ⟨_, _, c0t, _, _, _, _, p0t, q0t, _, _, _, g3t, _, _⟩ := tl_row hav (hv _ k3.tail.tail.rest) hf hp (kd := .i64)
  cases p0.symm.trans p0t
  obtain ⟨a5, n5, h5, e5, k5⟩ := k3.appB (P := Tryd.prog) (t := 22) (xt := 22) Tryd.underlying22 tsz5 tby5 tz5 nI22 (hb h3 k3.tail.tail.rest j _ _ hf hp).src (by dsimp only; omega)
  obtain ⟨i6, o6, c6, ti6, p6, l6, k6, gg, back⟩ := os_upd Tryd.underlying33 tsz24 k5.b1 (j := o'.length) (by omega) (f := 3) (by omega) (kd := .i64)
  cases p1.symm.trans p6
  dsimp only at e3 e5 g3t
  have d6 := k6.obj
  have l6' : o1 + 3 + 1 ≤ c6.length := by omega
  have k7 := back _ (.slice a5 (yb.length + fb.length) n5) _ (k6.set (.row (c6.set (o1 + 3) (.slice a5 (yb.length + fb.length) n5)) 24 4 ti6 false))
  (repeat' first
    | refine AWP.seq ?_
    | refine AWP.block ?_
    | (refine AWP.skip ?_; try dsimp only [thn, inBlk])
    | (refine AWP.exit ?_; try simp only [thn, inBlk, if_true, reduceIte, Nat.reduceEqDiff])
    | (refine AWP.ret ?_; try dsimp only [thn, inBlk])
    | (refine AWP.condT ?_ ?_; (focus (simp [go_sem, hjm', p0, q0, g0, hk', hpos, w2, p1, q1, m0, hyk']; done)))
    | (refine AWP.condF ?_ ?_; (focus (simp [go_sem, hjm', p0, q0, g0, hk', hpos, w2, p1, q1, m0, hyk']; done)))
    | (apply AWP.rE; (focus (simp [go_sem, hjm', p0, q0, g0, hk', hpos, w2, p1, q1, m0, hyk']; exact ⟨rfl, rfl⟩)); try dsimp only [thn, inBlk])
    | fail)
  refine AWP.draw hmix [.n 0 [3], .n 1 [5], .n 2 [35], .n 3 [], .n 4 [3], .n 5 [5], .n 6 [39], .n 7 [38, 40], .n 8 [41], .n 9 [42], .n 11 [0], .n 12 [4], .n 13 [45, 46], .n 14 [47], .n 15 [48], .w 10 [37, 43] [15], .w 16 [44, 49] [], .n 17 [34, 36], .n 18 [51], .w 19 [52, 50] []] (by kernel_rfl) ?_
  refine awpD_writeR 15 (by rfl) (by rfl) (by simp [go_sem, w2, p1, q1p, m3p, p0, q0p, g3p, e3, q0t, g3t]; exact ⟨rfl, rfl, rfl⟩) (by rfl) (by rfl) (by simp [go_sem]) (by simp [go_sem, w2, p1, q1p, m3p, p0, q0p, g3p, e3, q0t, g3t]; exact ⟨rfl, rfl⟩) (by simp [still, go_sem, w2, p1, q1p, m3p, p0, q0p, g3p, e3, q0t, g3t]) ?_
  refine awpD_writeR 0 (by rfl) (by rfl) (by simp [go_sem, e5, q0t, g3t]; exact ⟨rfl, rfl, rfl⟩) (by rfl) (by rfl) (by simp [go_sem]) (by simp [go_sem, e5, q0t, g3t]; exact ⟨rfl, rfl⟩) (by simp [still, go_sem, e5, q0t, g3t]) ?_
  refine awpD_writeR 2 (by rfl) (by rfl) (by simp [go_sem, w2, p1, d6, l6']; exact ⟨rfl, rfl, rfl⟩) (by rfl) (by rfl) (by simp [go_sem]) (by simp [go_sem, w2, p1, d6, l6']; exact ⟨rfl, rfl⟩) (by simp [still, go_sem, w2, p1, d6, l6']) ?_
  refine awpD_restR (by rfl) (by simp [go_sem]; exact ⟨rfl, rfl, rfl⟩) ?_; try dsimp only [thn, inBlk]
  (repeat' first
    | refine AWP.seq ?_
    | refine AWP.block ?_
    | (refine AWP.skip ?_; try dsimp only [thn, inBlk])
    | (refine AWP.exit ?_; try simp only [thn, inBlk, if_true, reduceIte, Nat.reduceEqDiff])
    | (refine AWP.ret ?_; try dsimp only [thn, inBlk])
    | (refine AWP.condT ?_ ?_; (focus (simp [go_sem, w1]; done)))
    | (refine AWP.condF ?_ ?_; (focus (simp [go_sem, w1]; done)))
    | (apply AWP.rE; (focus (simp [go_sem, w1]; exact ⟨rfl, rfl⟩)); try dsimp only [thn, inBlk])
    | fail)
  have hset : (rcells pre out ac).flatten.set (o'.length * 4 + 3) (.slice a5 (yb.length + fb.length) n5) = (rcells pre (o' ++ [((yk, yv, yo), yb ++ fb)]) (ac' ++ [(a5, n5)])).flatten := by
    rw [ho, hac, rcells_app hal1, rcells_app hal1, ← rcells_flen hal1, List.set_append_right _ _ (by omega), Nat.add_sub_cancel_left]
    simp
  rw [hset] at k7
  refine ⟨fs.length - (j + 1), by omega, j + 1, o' ++ [((yk, yv, yo), yb ++ fb)], ac' ++ [(a5, n5)], ob 5 (.slice a5 (yb ++ fb).length n5) (yb ++ fb) :: L, a, cap, by omega, rfl, by simp [go_sem, hol1], by simp; omega, by simp [hal1], ?_, by rw [hI, hst], ?_, ?_⟩
  · intro g hg
    rcases List.mem_append.1 hg with hg | hg
    · exact Nat.le_trans (hod g (by rw [ho]; exact List.mem_append_left _ hg)) (Nat.mul_le_mul_right _ (by omega))
    · obtain rfl := List.mem_singleton.1 hg
      show (yb ++ fb).length ≤ _; rw [List.length_append]; omega
  · refine bods_app hal1 (fun hh kk q f p hf hp => ?_) (fun hh kk => kk.ob_bytes)
    have hq : q < o'.length := (List.getElem?_eq_some_iff.1 hf).1
    exact hbo hh kk.tail q f p (by rw [ho, List.getElem?_append_left hq]; exact hf) (by rw [hac, List.getElem?_append_left (by omega)]; exact hp)
  · have e1 : (o' ++ [((yk, yv, yo), yb ++ fb)]).length = out.length := by rw [hol1]; simp
    have e2 : (yb ++ fb).length = yb.length + fb.length := List.length_append
    rw [e2]
    rw [trows, e1]
    exact k7
end L22
