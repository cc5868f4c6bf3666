import Derived.Test.YtomcliklmfkaoaaL15m
open Go Ab Go.Proofs
namespace L15
set_option autoImplicit false
set_option linter.unusedSimpArgs false
set_option linter.unusedVariables false

/-! ### All places at once -/
section
variable {ps : List Pt} {T T' : List UInt8} {cur nxt : List Bool} {i j m : Nat} {p : Pt} {c : UInt8}
def Reach (ps : List Pt) (T : List UInt8) (i : Nat) (cur : List Bool) : Prop := mt ps T = true ↔ ∃ j, cur[j]? = some true ∧ mt (ps.drop j) (T.drop i) = true
def Clos (ps : List Pt) (cur : List Bool) (m : Nat) : Prop := ∀ j p, j < m → cur[j]? = some true → ps[j]? = some p → p.kd = 3 → cur[j + 1]? = some true
def Nx (ps : List Pt) (cur : List Bool) (c : UInt8) (m : Nat) (nxt : List Bool) : Prop :=
  ∀ j', nxt[j']? = some true ↔ ∃ j p, j < m ∧ cur[j]? = some true ∧ ps[j]? = some p ∧ ((p.kd = 3 ∧ j' = j) ∨ (p.kd ≠ 3 ∧ fits p c = true ∧ j' = j + 1))
theorem set_true {l : List Bool} {k j : Nat} (hk : k < l.length) : (l.set k true)[j]? = some true ↔ j = k ∨ l[j]? = some true := by
  rw [List.getElem?_set]
  by_cases h : k = j
  · subst h; simp [hk]
  · rw [if_neg h]; simp [eq_comm, h]
theorem mt_run0 (hp : ps[j]? = some p) (h3 : p.kd = 3) {t : List UInt8} (h : mt (ps.drop (j + 1)) t = true) : mt (ps.drop j) t = true := by
  have hlt := (List.getElem?_eq_some_iff.1 hp).1
  rw [List.drop_eq_getElem_cons hlt]
  have : ps[j] = p := (List.getElem?_eq_some_iff.1 hp).2
  rw [this, mt_run h3]
  exact ⟨0, by omega, h⟩
theorem Reach.put (h : Reach ps T i cur) (hc : cur[j]? = some true) (hp : ps[j]? = some p) (h3 : p.kd = 3) (hl : j + 1 < cur.length) : Reach ps T i (cur.set (j + 1) true) := by
  unfold Reach at *
  rw [h]
  constructor
  · rintro ⟨j', h1, h2⟩
    exact ⟨j', (set_true hl).2 (.inr h1), h2⟩
  · rintro ⟨j', h1, h2⟩
    rcases (set_true hl).1 h1 with rfl | h1
    · exact ⟨j, hc, mt_run0 hp h3 h2⟩
    · exact ⟨j', h1, h2⟩
theorem Clos.put (h : Clos ps cur j) (hl : j + 1 < cur.length) : Clos ps (cur.set (j + 1) true) (j + 1) := by
  intro j' q h1 h2 h3 h4
  rw [set_true hl] at h2 ⊢
  rcases h2 with h2 | h2
  · omega
  · by_cases e : j' = j
    · exact .inl (by omega)
    · exact .inr (h j' q (by omega) h2 h3 h4)
theorem Clos.keep (h : Clos ps cur j) (hn : ∀ p, cur[j]? = some true → ps[j]? = some p → p.kd ≠ 3) : Clos ps cur (j + 1) := by
  intro j' q h1 h2 h3 h4
  by_cases e : j' = j
  · subst e; exact absurd h4 (hn q h2 h3)
  · exact h j' q (by omega) h2 h3 h4
theorem Nx.start (hn : ∀ x ∈ nxt, x = false) : Nx ps cur c 0 nxt := by
  intro j'
  constructor
  · intro h
    have := hn _ (List.mem_of_getElem? h); cases this
  · rintro ⟨j, _, h, _⟩; omega
theorem Nx.keep (h : Nx ps cur c j nxt) (hn : ∀ p, cur[j]? = some true → ps[j]? = some p → p.kd ≠ 3 ∧ fits p c = false) : Nx ps cur c (j + 1) nxt := by
  intro j'
  rw [h j']
  constructor
  · rintro ⟨j2, q, h1, h2⟩; exact ⟨j2, q, by omega, h2⟩
  · rintro ⟨j2, q, h1, h2, h3, h4⟩
    by_cases e : j2 = j
    · subst e
      obtain ⟨n1, n2⟩ := hn q h2 h3
      rcases h4 with h4 | h4
      · exact absurd h4.1 n1
      · rw [n2] at h4; cases h4.2.1
    · exact ⟨j2, q, by omega, h2, h3, h4⟩
theorem Nx.run (h : Nx ps cur c j nxt) (hc : cur[j]? = some true) (hp : ps[j]? = some p) (h3 : p.kd = 3) (hl : j < nxt.length) : Nx ps cur c (j + 1) (nxt.set j true) := by
  intro j'
  rw [set_true hl, h j']
  constructor
  · rintro (rfl | ⟨j2, q, h1, h2⟩)
    · exact ⟨j', p, by omega, hc, hp, .inl ⟨h3, rfl⟩⟩
    · exact ⟨j2, q, by omega, h2⟩
  · rintro ⟨j2, q, h1, h2, h4, h5⟩
    by_cases e : j2 = j
    · subst e
      rw [hp] at h4; cases h4
      rcases h5 with h5 | h5
      · exact .inl h5.2
      · exact absurd h3 h5.1
    · exact .inr ⟨j2, q, by omega, h2, h4, h5⟩
theorem Nx.hit (h : Nx ps cur c j nxt) (hc : cur[j]? = some true) (hp : ps[j]? = some p) (h3 : p.kd ≠ 3) (hf : fits p c = true) (hl : j + 1 < nxt.length) : Nx ps cur c (j + 1) (nxt.set (j + 1) true) := by
  intro j'
  rw [set_true hl, h j']
  constructor
  · rintro (rfl | ⟨j2, q, h1, h2⟩)
    · exact ⟨j, p, by omega, hc, hp, .inr ⟨h3, hf, rfl⟩⟩
    · exact ⟨j2, q, by omega, h2⟩
  · rintro ⟨j2, q, h1, h2, h4, h5⟩
    by_cases e : j2 = j
    · subst e
      rw [hp] at h4; cases h4
      rcases h5 with h5 | h5
      · exact absurd h5.1 h3
      · exact .inl h5.2.2
    · exact .inr ⟨j2, q, by omega, h2, h4, h5⟩
theorem nx_from (hcl : Clos ps cur ps.length) (hx : Nx ps cur c ps.length nxt) : ∀ (d j : Nat), ps.length - j = d → cur[j]? = some true → mt (ps.drop j) (c :: T') = true → ∃ j', nxt[j']? = some true ∧ mt (ps.drop j') T' = true
  | d, j, hd, hc, hm => by
    by_cases hj : j < ps.length
    · have hp : ps[j]? = some ps[j] := List.getElem?_eq_getElem hj
      have hm0 := hm
      rw [List.drop_eq_getElem_cons hj] at hm
      by_cases h3 : ps[j].kd = 3
      · rw [mt_run h3] at hm
        obtain ⟨n, h1, h2⟩ := hm
        cases n with
        | zero => exact nx_from hcl hx (ps.length - (j + 1)) (j + 1) rfl (hcl j _ hj hc hp h3) h2
        | succ n =>
          refine ⟨j, (hx j).2 ⟨j, _, hj, hc, hp, .inl ⟨h3, rfl⟩⟩, ?_⟩
          rw [List.drop_eq_getElem_cons hj, mt_run h3]
          exact ⟨n, by simpa using h1, h2⟩
      · rw [mt_one h3, Bool.and_eq_true] at hm
        exact ⟨j + 1, (hx (j + 1)).2 ⟨j, _, hj, hc, hp, .inr ⟨h3, hm.1, rfl⟩⟩, hm.2⟩
    · rw [List.drop_of_length_le (by omega)] at hm
      simp [mt] at hm
termination_by d _ => d
decreasing_by omega
theorem Reach.step (h : Reach ps T i cur) (hcl : Clos ps cur ps.length) (hx : Nx ps cur c ps.length nxt) (hi : T.drop i = c :: T.drop (i + 1)) : Reach ps T (i + 1) nxt := by
  unfold Reach at *
  rw [h, hi]
  constructor
  · rintro ⟨j, h1, h2⟩; exact nx_from hcl hx _ j rfl h1 h2
  · rintro ⟨j', h1, h2⟩
    obtain ⟨j, p, h3, h4, h5, h6⟩ := (hx j').1 h1
    refine ⟨j, h4, ?_⟩
    have hlt := (List.getElem?_eq_some_iff.1 h5).1
    have he : ps[j] = p := (List.getElem?_eq_some_iff.1 h5).2
    rw [List.drop_eq_getElem_cons hlt, he]
    rcases h6 with ⟨h6, rfl⟩ | ⟨h6, h7, rfl⟩
    · rw [List.drop_eq_getElem_cons hlt, he, mt_run h6] at h2
      obtain ⟨n, n1, n2⟩ := h2
      rw [mt_run h6]
      exact ⟨n + 1, by simpa using n1, n2⟩
    · rw [mt_one h6, h7, h2]; rfl
theorem fin_from (hcl : Clos ps cur ps.length) : ∀ (d j : Nat), ps.length - j = d → j ≤ ps.length → cur[j]? = some true → mt (ps.drop j) [] = true → cur[ps.length]? = some true
  | d, j, hd, hle, hc, hm => by
    by_cases hj : j < ps.length
    · have hp : ps[j]? = some ps[j] := List.getElem?_eq_getElem hj
      rw [List.drop_eq_getElem_cons hj] at hm
      by_cases h3 : ps[j].kd = 3
      · rw [mt_run h3] at hm
        obtain ⟨n, h1, h2⟩ := hm
        obtain rfl : n = 0 := by simpa using h1
        exact fin_from hcl (ps.length - (j + 1)) (j + 1) rfl hj (hcl j _ hj hc hp h3) h2
      · rw [mt_none h3] at hm; cases hm
    · obtain rfl : j = ps.length := by omega
      exact hc
termination_by d _ => d
decreasing_by omega
theorem Reach.fin (h : Reach ps T T.length cur) (hcl : Clos ps cur ps.length) (hl : cur.length = ps.length + 1) : cur[ps.length]? = some (mt ps T) := by
  have hk : ps.length < cur.length := by omega
  unfold Reach at h
  rw [List.drop_length] at h
  have key : mt ps T = true ↔ cur[ps.length]? = some true := by
    rw [h]
    constructor
    · rintro ⟨j, h1, h2⟩
      have := (List.getElem?_eq_some_iff.1 h1).1
      exact fin_from hcl _ j rfl (by omega) h1 h2
    · intro h1
      exact ⟨ps.length, h1, by simp [mt]⟩
  rw [List.getElem?_eq_getElem hk] at key ⊢
  cases hc : cur[ps.length] <;> rw [hc] at key
  · cases hm : mt ps T
    · rfl
    · simp [hm] at key
  · rw [key.2 rfl]
theorem Reach.start (n : Nat) : Reach ps T 0 (true :: List.replicate n false) := by
  unfold Reach
  constructor
  · intro h; exact ⟨0, rfl, by simpa using h⟩
  · rintro ⟨j, h1, h2⟩
    cases j with
    | zero => simpa using h2
    | succ j =>
      rw [List.getElem?_cons_succ, List.getElem?_replicate] at h1
      split at h1 <;> cases h1
end

theorem mk30 {id n : Nat} (hn : n ≤ 1000000) : makeSliceA Try.prog id 30 (.int .i64 n) (.int .i64 n) = some (.slice (some ⟨id, 0, none⟩) n n, .row (List.replicate n (Value.bool false)) 4 1 true false) := by
  simp only [makeSliceA, Try.underlying30, tsz4, tby4, tz4]
  rw [if_pos ⟨by omega, by omega, by omega, by simp; omega, rfl, by omega, rfl⟩]
  have e : (zeros (Value.bool false).cells ((n : Int).toNat * 1)).toList = List.replicate n (Value.bool false) := by
    apply List.ext_getElem?
    intro m
    simp only [zeros, Int.toNat_natCast, Nat.mul_one]
    simp [Value.cells, Nat.mod_one]
    by_cases h : m < n <;> simp [h, List.getElem?_replicate]
  rw [e]; rfl

abbrev bs1 (v : Value) (l : List Bool) (n : Nat) : Chunk := os 4 1 v n (l.map Value.bool)
theorem bs_at {O : Old} {h : AHeap} {R : List Chunk} {v : Value} {l : List Bool} {n : Nat} (k : Own O h (bs1 v l n :: R)) {j : Nat} (hj : j < n) {b : Bool} (hb : l[j]? = some b) :
    ∃ i off c e sz ti ro, indexAddrP Try.prog 30 v (.int .i64 j) = some (.pointer (some ⟨i, off, none⟩)) ∧ h.obj i = some (.row c e sz ti ro) ∧ c[off]? = some (.bool b) :=
  k.os_sl.at1 (P := Try.prog) (t := 30) Try.underlying30 tsz4 hj (x := .bool b) (by rw [List.getElem?_map, hb]; rfl) (kd := .i64)
theorem bs_put {O : Old} {h : AHeap} {R : List Chunk} {v : Value} {l : List Bool} {n : Nat} (k : Own O h (bs1 v l n :: R)) {j : Nat} (hj : j < n) :
    ∃ i off c ti, indexAddrP Try.prog 30 v (.int .i64 j) = some (.pointer (some ⟨i, off, none⟩)) ∧ h.obj i = some (.row c 4 1 ti false) ∧ off + 1 ≤ c.length ∧ Own O (h.set i (.row (c.set off (.bool true)) 4 1 ti false)) (bs1 v (l.set j true) n :: R) := by
  obtain ⟨i, off, c, ti, q1, q2, q3, q4⟩ := k.os_write (P := Try.prog) (t := 30) Try.underlying30 tsz4 hj (.bool true) (kd := .i64)
  exact ⟨i, off, c, ti, q1, q2, q3, by rw [bs1, List.map_set]; exact q4⟩

set_option maxHeartbeats 16000000 in
theorem refMatch_calls {O : Old} {h : AHeap} {R : List Chunk} {p t : List UInt8} (k : Own O h R) (hp : p.length ≤ 1000000) (ht : t.length ≤ 100000) :
    ACalls Try.prog 11 #[.string ⟨p.toArray⟩, .string ⟨t.toArray⟩] h fun v h' => v = .bool (matchR p t) ∧ Own O h' R := by
  refine ACalls.of_awp (args := [.string ⟨p.toArray⟩, .string ⟨t.toArray⟩]) (n := 113) Try.func11 rfl rfl (by show 2 ≤ 113; omega) ?_
  (repeat' first
    | refine AWP.seq ?_
    | refine AWP.block ?_
    | (refine AWP.skip ?_; try dsimp only [thn, inBlk])
    | (refine AWP.exit ?_; try simp only [thn, inBlk, if_true, reduceIte, Nat.reduceEqDiff])
    | (refine AWP.ret ?_; try dsimp only [thn, inBlk])
    | (refine AWP.condT ?_ ?_; (focus (simp [go_sem]; done)))
    | (refine AWP.condF ?_ ?_; (focus (simp [go_sem]; done)))
    | (apply AWP.rE; (focus (simp [go_sem]; exact ⟨rfl, rfl⟩)); try dsimp only [thn, inBlk])
    | (apply AWP.dE hmix [.n 0 [7], .n 1 [11], .n 2 [80, 81], .n 3 [82], .n 4 [83], .n 5 [5, 84], .n 6 [11, 84], .n 7 [85, 86, 84], .n 8 [87, 84], .n 9 [88, 84], .n 10 [89, 84], .n 11 [84, 90], .n 12 [91], .n 13 [5, 92], .n 14 [11, 92], .n 15 [1, 92], .n 16 [8, 92], .n 17 [95, 96, 92], .n 18 [93, 94, 92], .n 19 [98, 92], .n 20 [99, 97, 92], .n 21 [100, 92], .n 22 [92, 101]]; (focus kernel_rfl); (focus (simp [go_sem]; exact ⟨rfl, rfl⟩)); try dsimp only [thn, inBlk])
    | fail)
  refine AWP.callE (by simp [go_sem]; exact ⟨rfl, rfl, rfl, rfl, rfl⟩) (by kernel_rfl) ?_
  refine (refParse_calls k hp).mono ?_
  rintro v h1 ⟨pa, pc, rfl, k1⟩
  have hb := parse_bound p
  unfold matchR
  generalize hpr : parseR p = E at *
  obtain ⟨ps, er⟩ := E
  simp only at hb k1 ⊢
  obtain ⟨hb1, hb2⟩ := hb
  by_cases her : er = 0
  rotate_left
  · have her' : (er != 0) = true := by simpa using her
    rw [decide_eq_false her]
    refine awpL_restE (by simp [go_sem]; exact ⟨rfl, rfl⟩) ?_; try dsimp only [thn, inBlk]
    (repeat' first
      | refine AWP.seq ?_
      | refine AWP.block ?_
      | (refine AWP.skip ?_; try dsimp only [thn, inBlk])
      | (refine AWP.exit ?_; try simp only [thn, inBlk, if_true, reduceIte, Nat.reduceEqDiff])
      | (refine AWP.ret ?_; try dsimp only [thn, inBlk])
      | (refine AWP.condT ?_ ?_; (focus (simp [go_sem, her']; done)))
      | (refine AWP.condF ?_ ?_; (focus (simp [go_sem, her']; done)))
      | (apply AWP.rE; (focus (simp [go_sem, her']; exact ⟨rfl, rfl⟩)); try dsimp only [thn, inBlk])
      | (apply AWP.dE hmix [.n 0 [7], .n 1 [11], .n 2 [80, 81], .n 3 [82], .n 4 [83], .n 5 [5, 84], .n 6 [11, 84], .n 7 [85, 86, 84], .n 8 [87, 84], .n 9 [88, 84], .n 10 [89, 84], .n 11 [84, 90], .n 12 [91], .n 13 [5, 92], .n 14 [11, 92], .n 15 [1, 92], .n 16 [8, 92], .n 17 [95, 96, 92], .n 18 [93, 94, 92], .n 19 [98, 92], .n 20 [99, 97, 92], .n 21 [100, 92], .n 22 [92, 101]]; (focus kernel_rfl); (focus (simp [go_sem, her']; exact ⟨rfl, rfl⟩)); try dsimp only [thn, inBlk])
      | fail)
    simp [bodyQ, thn, inBlk, resA, resV, go_sem]
    exact k1.tail
  subst her
  simp only [decide_true, Bool.true_and]
  have wn : IntKind.i64.wrap ((ps.length : Int) + 1) = ((ps.length + 1 : Nat) : Int) := wnat (by omega)
  have hN : ∃ N, N = ps.length + 1 := ⟨_, rfl⟩
  obtain ⟨N, hN⟩ := hN
  rw [← hN] at wn
  have mk := fun id => mk30 (id := id) (n := N) (by omega)
  have k2 := (k1.push (.row (List.replicate N (Value.bool false)) 4 1 true false))
  have k3 : Own O _ (bs1 (.slice (some ⟨h1.next, 0, none⟩) N N) (List.replicate N false) N :: _) := k2.os_mk (n := N) (cap := N) (off := 0) (cs := (List.replicate N false).map Value.bool) (Nat.le_refl _) (by simp) (by simp [List.take_of_length_le])
  obtain ⟨bi, bo, bc, bt, q1, q2, q3, k4⟩ := bs_put k3 (j := 0) (by omega)
  have e0 : (List.replicate N false).set 0 true = true :: List.replicate ps.length false := by rw [hN]; rfl
  rw [e0] at k4
  have q1' : indexAddrP Try.prog 30 (.slice (some ⟨h1.next, 0, none⟩) N N) (.int .i64 0) = some (.pointer (some ⟨bi, bo, none⟩)) := q1
  refine awpL_restE (by simp [go_sem]; exact ⟨rfl, rfl⟩) ?_; try dsimp only [thn, inBlk]
  (repeat' first
    | refine AWP.seq ?_
    | refine AWP.block ?_
    | (refine AWP.skip ?_; try dsimp only [thn, inBlk])
    | (refine AWP.exit ?_; try simp only [thn, inBlk, if_true, reduceIte, Nat.reduceEqDiff])
    | (refine AWP.ret ?_; try dsimp only [thn, inBlk])
    | (refine AWP.condT ?_ ?_; (focus (simp [go_sem, wn, mk, q1', q2, q3]; done)))
    | (refine AWP.condF ?_ ?_; (focus (simp [go_sem, wn, mk, q1', q2, q3]; done)))
    | (apply AWP.rE; (focus (simp [go_sem, wn, mk, q1', q2, q3]; exact ⟨rfl, rfl⟩)); try dsimp only [thn, inBlk])
    | (apply AWP.dE hmix [.n 0 [7], .n 1 [11], .n 2 [80, 81], .n 3 [82], .n 4 [83], .n 5 [5, 84], .n 6 [11, 84], .n 7 [85, 86, 84], .n 8 [87, 84], .n 9 [88, 84], .n 10 [89, 84], .n 11 [84, 90], .n 12 [91], .n 13 [5, 92], .n 14 [11, 92], .n 15 [1, 92], .n 16 [8, 92], .n 17 [95, 96, 92], .n 18 [93, 94, 92], .n 19 [98, 92], .n 20 [99, 97, 92], .n 21 [100, 92], .n 22 [92, 101]]; (focus kernel_rfl); (focus (simp [go_sem, wn, mk, q1', q2, q3]; exact ⟨rfl, rfl⟩)); try dsimp only [thn, inBlk])
    | fail)
  refine AWP.loopR [1, 5, 7, 8] (fun m s' h' => ∃ (i : Nat) (cur : List Bool) (va : Option Addr) (vc : Nat), i ≤ t.length ∧ m = t.length + 1 - i ∧ cur.length = N ∧ Reach ps t i cur ∧ s' = ⟨113, [(1, .string ⟨t.toArray⟩), (5, .slice pa ps.length pc), (7, .slice va N vc), (8, .int .i64 i)]⟩ ∧
    Own O h' (bs1 (.slice va N vc) cur N :: rps (.slice pa ps.length pc) ps :: R)) ?_ ?_
  · exact ⟨_, 0, _, _, _, by omega, rfl, by simp [hN], Reach.start _, by simp [go_sem], k4⟩
  rintro m s' h2 ⟨i, cur, va, vc, hi, rfl, hcl, hr, rfl, kt⟩
  have hi' : (i : Int) ≤ t.length := by omega
  (repeat' first
    | refine AWP.seq ?_
    | refine AWP.block ?_
    | (refine AWP.skip ?_; try dsimp only [thn, inBlk])
    | (refine AWP.exit ?_; try simp only [thn, inBlk, if_true, reduceIte, Nat.reduceEqDiff])
    | (refine AWP.ret ?_; try dsimp only [thn, inBlk])
    | (refine AWP.condT ?_ ?_; (focus (simp [go_sem, hi']; done)))
    | (refine AWP.condF ?_ ?_; (focus (simp [go_sem, hi']; done)))
    | (apply AWP.rE; (focus (simp [go_sem, hi']; exact ⟨rfl, rfl⟩)); try dsimp only [thn, inBlk])
    | (apply AWP.dE hmix [.n 0 [7], .n 1 [11], .n 2 [80, 81], .n 3 [82], .n 4 [83], .n 5 [5, 84], .n 6 [11, 84], .n 7 [85, 86, 84], .n 8 [87, 84], .n 9 [88, 84], .n 10 [89, 84], .n 11 [84, 90], .n 12 [91], .n 13 [5, 92], .n 14 [11, 92], .n 15 [1, 92], .n 16 [8, 92], .n 17 [95, 96, 92], .n 18 [93, 94, 92], .n 19 [98, 92], .n 20 [99, 97, 92], .n 21 [100, 92], .n 22 [92, 101]]; (focus kernel_rfl); (focus (simp [go_sem, hi']; exact ⟨rfl, rfl⟩)); try dsimp only [thn, inBlk])
    | fail)
  refine AWP.loopR [1, 5, 7, 8, 9] (fun m s' h' => ∃ (j : Nat) (cur : List Bool), j ≤ ps.length ∧ m = ps.length - j ∧ cur.length = N ∧ Reach ps t i cur ∧ Clos ps cur j ∧ s' = ⟨113, [(1, .string ⟨t.toArray⟩), (5, .slice pa ps.length pc), (7, .slice va N vc), (8, .int .i64 i), (9, .int .i64 j)]⟩ ∧
    Own O h' (bs1 (.slice va N vc) cur N :: rps (.slice pa ps.length pc) ps :: R)) ?_ ?_
  · exact ⟨_, 0, cur, by omega, rfl, hcl, hr, fun j p h => by omega, by simp [go_sem], kt⟩
  clear hr hcl kt cur h2
  rintro m s' h2 ⟨j, cur, hj, rfl, hcl, hr, hC, rfl, kt⟩
  by_cases hj2 : j < ps.length
  · have hj3 : (j : Int) < ps.length := by omega
    have wj : IntKind.i64.wrap ((j : Int) + 1) = ((j + 1 : Nat) : Int) := wnat (by omega)
    have hcj : cur[j]? = some (cur[j]'(by omega)) := List.getElem?_eq_getElem (by omega)
    have hpj : ps[j]? = some ps[j] := List.getElem?_eq_getElem hj2
    obtain ⟨ci, co, cc, ce, cz, ct, cr, a1, a2, a3⟩ := bs_at kt (j := j) (by omega) hcj
    obtain ⟨di, do_, dc, de, dz, dt, dr, b1, b2, b3, b4, b5, b6⟩ := rpt_at kt.b1 hj2
    cases hb : cur[j]'(by omega) with
    | false =>
      rw [hb] at a3 hcj
      (repeat' first
        | refine AWP.seq ?_
        | refine AWP.block ?_
        | (refine AWP.skip ?_; try dsimp only [thn, inBlk])
        | (refine AWP.exit ?_; try simp only [thn, inBlk, if_true, reduceIte, Nat.reduceEqDiff])
        | (refine AWP.ret ?_; try dsimp only [thn, inBlk])
        | (refine AWP.condT ?_ ?_; (focus (simp [go_sem, hj2, hj3, wj, a1, a2, a3]; done)))
        | (refine AWP.condF ?_ ?_; (focus (simp [go_sem, hj2, hj3, wj, a1, a2, a3]; done)))
        | (apply AWP.rE; (focus (simp [go_sem, hj2, hj3, wj, a1, a2, a3]; exact ⟨rfl, rfl⟩)); try dsimp only [thn, inBlk])
        | (apply AWP.dE hmix [.n 0 [7], .n 1 [11], .n 2 [80, 81], .n 3 [82], .n 4 [83], .n 5 [5, 84], .n 6 [11, 84], .n 7 [85, 86, 84], .n 8 [87, 84], .n 9 [88, 84], .n 10 [89, 84], .n 11 [84, 90], .n 12 [91], .n 13 [5, 92], .n 14 [11, 92], .n 15 [1, 92], .n 16 [8, 92], .n 17 [95, 96, 92], .n 18 [93, 94, 92], .n 19 [98, 92], .n 20 [99, 97, 92], .n 21 [100, 92], .n 22 [92, 101]]; (focus kernel_rfl); (focus (simp [go_sem, hj2, hj3, wj, a1, a2, a3]; exact ⟨rfl, rfl⟩)); try dsimp only [thn, inBlk])
        | fail)
      exact ⟨ps.length - (j + 1), by omega, j + 1, cur, by omega, rfl, hcl, hr, hC.keep (fun p h => by rw [hcj] at h; cases h), by simp [go_sem], kt⟩
    | true =>
      rw [hb] at a3 hcj
      by_cases h3 : ps[j].kd = 3
      · rw [h3] at b3
        simp only [decide_true] at b3
        obtain ⟨j1, hj1⟩ : ∃ j1, j1 = j + 1 := ⟨_, rfl⟩; rw [← hj1] at wj
        obtain ⟨ei, eo, ec, et, f1, f2, f3, k5⟩ := bs_put kt (j := j1) (by omega)
        (repeat' first
          | refine AWP.seq ?_
          | refine AWP.block ?_
          | (refine AWP.skip ?_; try dsimp only [thn, inBlk])
          | (refine AWP.exit ?_; try simp only [thn, inBlk, if_true, reduceIte, Nat.reduceEqDiff])
          | (refine AWP.ret ?_; try dsimp only [thn, inBlk])
          | (refine AWP.condT ?_ ?_; (focus (simp [go_sem, hj2, hj3, wj, a1, a2, a3, b1, b2, b3, f1, f2, f3]; done)))
          | (refine AWP.condF ?_ ?_; (focus (simp [go_sem, hj2, hj3, wj, a1, a2, a3, b1, b2, b3, f1, f2, f3]; done)))
          | (apply AWP.rE; (focus (simp [go_sem, hj2, hj3, wj, a1, a2, a3, b1, b2, b3, f1, f2, f3]; exact ⟨rfl, rfl⟩)); try dsimp only [thn, inBlk])
          | (apply AWP.dE hmix [.n 0 [7], .n 1 [11], .n 2 [80, 81], .n 3 [82], .n 4 [83], .n 5 [5, 84], .n 6 [11, 84], .n 7 [85, 86, 84], .n 8 [87, 84], .n 9 [88, 84], .n 10 [89, 84], .n 11 [84, 90], .n 12 [91], .n 13 [5, 92], .n 14 [11, 92], .n 15 [1, 92], .n 16 [8, 92], .n 17 [95, 96, 92], .n 18 [93, 94, 92], .n 19 [98, 92], .n 20 [99, 97, 92], .n 21 [100, 92], .n 22 [92, 101]]; (focus kernel_rfl); (focus (simp [go_sem, hj2, hj3, wj, a1, a2, a3, b1, b2, b3, f1, f2, f3]; exact ⟨rfl, rfl⟩)); try dsimp only [thn, inBlk])
          | fail)
        subst hj1
        exact ⟨ps.length - (j + 1), by omega, j + 1, cur.set (j + 1) true, by omega, rfl, by simpa using hcl, hr.put hcj hpj h3 (by omega), hC.put (by omega), by simp [go_sem], k5⟩
      · rw [decide_eq_false h3] at b3
        (repeat' first
          | refine AWP.seq ?_
          | refine AWP.block ?_
          | (refine AWP.skip ?_; try dsimp only [thn, inBlk])
          | (refine AWP.exit ?_; try simp only [thn, inBlk, if_true, reduceIte, Nat.reduceEqDiff])
          | (refine AWP.ret ?_; try dsimp only [thn, inBlk])
          | (refine AWP.condT ?_ ?_; (focus (simp [go_sem, hj2, hj3, wj, a1, a2, a3, b1, b2, b3]; done)))
          | (refine AWP.condF ?_ ?_; (focus (simp [go_sem, hj2, hj3, wj, a1, a2, a3, b1, b2, b3]; done)))
          | (apply AWP.rE; (focus (simp [go_sem, hj2, hj3, wj, a1, a2, a3, b1, b2, b3]; exact ⟨rfl, rfl⟩)); try dsimp only [thn, inBlk])
          | (apply AWP.dE hmix [.n 0 [7], .n 1 [11], .n 2 [80, 81], .n 3 [82], .n 4 [83], .n 5 [5, 84], .n 6 [11, 84], .n 7 [85, 86, 84], .n 8 [87, 84], .n 9 [88, 84], .n 10 [89, 84], .n 11 [84, 90], .n 12 [91], .n 13 [5, 92], .n 14 [11, 92], .n 15 [1, 92], .n 16 [8, 92], .n 17 [95, 96, 92], .n 18 [93, 94, 92], .n 19 [98, 92], .n 20 [99, 97, 92], .n 21 [100, 92], .n 22 [92, 101]]; (focus kernel_rfl); (focus (simp [go_sem, hj2, hj3, wj, a1, a2, a3, b1, b2, b3]; exact ⟨rfl, rfl⟩)); try dsimp only [thn, inBlk])
          | fail)
        exact ⟨ps.length - (j + 1), by omega, j + 1, cur, by omega, rfl, hcl, hr, hC.keep (fun p h h' => by rw [hpj] at h'; cases h'; exact h3), by simp [go_sem], kt⟩
  have hj3 : ¬ (j : Int) < ps.length := by omega
  obtain rfl : j = ps.length := by omega
  by_cases hie : i = t.length
  · have hie' : ((i : Int) == t.length) = true := by simp [hie]
    have hfin : cur[ps.length]? = some (mt ps t) := by rw [hie] at hr; exact hr.fin hC (by omega)
    obtain ⟨ci, co, cc, ce, cz, ct, cr, a1, a2, a3⟩ := bs_at kt (j := ps.length) (by omega) hfin
    (repeat' first
      | refine AWP.seq ?_
      | refine AWP.block ?_
      | (refine AWP.skip ?_; try dsimp only [thn, inBlk])
      | (refine AWP.exit ?_; try simp only [thn, inBlk, if_true, reduceIte, Nat.reduceEqDiff])
      | (refine AWP.ret ?_; try dsimp only [thn, inBlk])
      | (refine AWP.condT ?_ ?_; (focus (simp [go_sem, hj3, hie', a1, a2, a3]; done)))
      | (refine AWP.condF ?_ ?_; (focus (simp [go_sem, hj3, hie', a1, a2, a3]; done)))
      | (apply AWP.rE; (focus (simp [go_sem, hj3, hie', a1, a2, a3]; exact ⟨rfl, rfl⟩)); try dsimp only [thn, inBlk])
      | (apply AWP.dE hmix [.n 0 [7], .n 1 [11], .n 2 [80, 81], .n 3 [82], .n 4 [83], .n 5 [5, 84], .n 6 [11, 84], .n 7 [85, 86, 84], .n 8 [87, 84], .n 9 [88, 84], .n 10 [89, 84], .n 11 [84, 90], .n 12 [91], .n 13 [5, 92], .n 14 [11, 92], .n 15 [1, 92], .n 16 [8, 92], .n 17 [95, 96, 92], .n 18 [93, 94, 92], .n 19 [98, 92], .n 20 [99, 97, 92], .n 21 [100, 92], .n 22 [92, 101]]; (focus kernel_rfl); (focus (simp [go_sem, hj3, hie', a1, a2, a3]; exact ⟨rfl, rfl⟩)); try dsimp only [thn, inBlk])
      | fail)
    simp [bodyQ, thn, inBlk, resA, resV, go_sem]
    exact kt.tail.tail
  have hilt : i < t.length := by omega
  have hilt' : (i : Int) < t.length := by omega
  have hie' : ((i : Int) == t.length) = false := by simp; omega
  have hti := str_index (P := Try.prog) Try.underlying9 hilt (kd := .i64)
  have htd : t.drop i = t[i] :: t.drop (i + 1) := List.drop_eq_getElem_cons hilt
  generalize hc : t[i] = c at *
  have wi : IntKind.i64.wrap ((i : Int) + 1) = ((i + 1 : Nat) : Int) := wnat (by omega)
  have k6 := (kt.push (.row (List.replicate N (Value.bool false)) 4 1 true false))
  have k7 : Own O _ (bs1 (.slice (some ⟨h2.next, 0, none⟩) N N) (List.replicate N false) N :: _) := k6.os_mk (n := N) (cap := N) (off := 0) (cs := (List.replicate N false).map Value.bool) (Nat.le_refl _) (by simp) (by simp [List.take_of_length_le])
  (repeat' first
    | refine AWP.seq ?_
    | refine AWP.block ?_
    | (refine AWP.skip ?_; try dsimp only [thn, inBlk])
    | (refine AWP.exit ?_; try simp only [thn, inBlk, if_true, reduceIte, Nat.reduceEqDiff])
    | (refine AWP.ret ?_; try dsimp only [thn, inBlk])
    | (refine AWP.condT ?_ ?_; (focus (simp [go_sem, hj3, hie', wn, mk]; done)))
    | (refine AWP.condF ?_ ?_; (focus (simp [go_sem, hj3, hie', wn, mk]; done)))
    | (apply AWP.rE; (focus (simp [go_sem, hj3, hie', wn, mk]; exact ⟨rfl, rfl⟩)); try dsimp only [thn, inBlk])
    | (apply AWP.dE hmix [.n 0 [7], .n 1 [11], .n 2 [80, 81], .n 3 [82], .n 4 [83], .n 5 [5, 84], .n 6 [11, 84], .n 7 [85, 86, 84], .n 8 [87, 84], .n 9 [88, 84], .n 10 [89, 84], .n 11 [84, 90], .n 12 [91], .n 13 [5, 92], .n 14 [11, 92], .n 15 [1, 92], .n 16 [8, 92], .n 17 [95, 96, 92], .n 18 [93, 94, 92], .n 19 [98, 92], .n 20 [99, 97, 92], .n 21 [100, 92], .n 22 [92, 101]]; (focus kernel_rfl); (focus (simp [go_sem, hj3, hie', wn, mk]; exact ⟨rfl, rfl⟩)); try dsimp only [thn, inBlk])
    | fail)
  refine AWP.loopR [1, 5, 7, 8, 10, 11] (fun m s' h' => ∃ (j : Nat) (nxt : List Bool), j ≤ ps.length ∧ m = ps.length - j ∧ nxt.length = N ∧ Nx ps cur c j nxt ∧ s' = ⟨113, [(1, .string ⟨t.toArray⟩), (5, .slice pa ps.length pc), (7, .slice va N vc), (8, .int .i64 i), (10, .slice (some ⟨h2.next, 0, none⟩) N N), (11, .int .i64 j)]⟩ ∧
    Own O h' (bs1 (.slice (some ⟨h2.next, 0, none⟩) N N) nxt N :: bs1 (.slice va N vc) cur N :: rps (.slice pa ps.length pc) ps :: R)) ?_ ?_
  · exact ⟨_, 0, _, by omega, rfl, by simp, Nx.start (fun x hx => (List.mem_replicate.1 hx).2), by simp [go_sem], k7⟩
  clear k6 k7
  rintro m s' h3 ⟨j, nxt, hj, rfl, hnl, hx, rfl, ku⟩
  by_cases hj2 : j < ps.length
  rotate_left
  · have hj3 : ¬ (j : Int) < ps.length := by omega
    obtain rfl : j = ps.length := by omega
    (repeat' first
      | refine AWP.seq ?_
      | refine AWP.block ?_
      | (refine AWP.skip ?_; try dsimp only [thn, inBlk])
      | (refine AWP.exit ?_; try simp only [thn, inBlk, if_true, reduceIte, Nat.reduceEqDiff])
      | (refine AWP.ret ?_; try dsimp only [thn, inBlk])
      | (refine AWP.condT ?_ ?_; (focus (simp [go_sem, hj3, wi]; done)))
      | (refine AWP.condF ?_ ?_; (focus (simp [go_sem, hj3, wi]; done)))
      | (apply AWP.rE; (focus (simp [go_sem, hj3, wi]; exact ⟨rfl, rfl⟩)); try dsimp only [thn, inBlk])
      | (apply AWP.dE hmix [.n 0 [7], .n 1 [11], .n 2 [80, 81], .n 3 [82], .n 4 [83], .n 5 [5, 84], .n 6 [11, 84], .n 7 [85, 86, 84], .n 8 [87, 84], .n 9 [88, 84], .n 10 [89, 84], .n 11 [84, 90], .n 12 [91], .n 13 [5, 92], .n 14 [11, 92], .n 15 [1, 92], .n 16 [8, 92], .n 17 [95, 96, 92], .n 18 [93, 94, 92], .n 19 [98, 92], .n 20 [99, 97, 92], .n 21 [100, 92], .n 22 [92, 101]]; (focus kernel_rfl); (focus (simp [go_sem, hj3, wi]; exact ⟨rfl, rfl⟩)); try dsimp only [thn, inBlk])
      | fail)
    exact ⟨t.length + 1 - (i + 1), by omega, i + 1, nxt, _, _, by omega, rfl, hnl, hr.step hC hx htd, by simp [go_sem], ku.d1⟩
  have hj3 : (j : Int) < ps.length := by omega
  have wj : IntKind.i64.wrap ((j : Int) + 1) = ((j + 1 : Nat) : Int) := wnat (by omega)
  have hcj : cur[j]? = some (cur[j]'(by omega)) := List.getElem?_eq_getElem (by omega)
  have hpj : ps[j]? = some ps[j] := List.getElem?_eq_getElem hj2
  obtain ⟨ci, co, cc, ce, cz, ct, cr, a1, a2, a3⟩ := bs_at ku.b1 (j := j) (by omega) hcj
  obtain ⟨di, do_, dc, de, dz, dt, dr, b1, b2, b3, b4, b5, b6⟩ := rpt_at ku.b2 hj2
  have b4c := b4 c
  have hc256 : (c.toNat : Int) < 256 := by have := c.toNat_lt; omega
  have hc256' : c.toNat < 256 := by have := c.toNat_lt; omega
  cases hb : cur[j]'(by omega) with
  | false =>
    rw [hb] at a3 hcj
    (repeat' first
      | refine AWP.seq ?_
      | refine AWP.block ?_
      | (refine AWP.skip ?_; try dsimp only [thn, inBlk])
      | (refine AWP.exit ?_; try simp only [thn, inBlk, if_true, reduceIte, Nat.reduceEqDiff])
      | (refine AWP.ret ?_; try dsimp only [thn, inBlk])
      | (refine AWP.condT ?_ ?_; (focus (simp [go_sem, hj2, hj3, wj, a1, a2, a3]; done)))
      | (refine AWP.condF ?_ ?_; (focus (simp [go_sem, hj2, hj3, wj, a1, a2, a3]; done)))
      | (apply AWP.rE; (focus (simp [go_sem, hj2, hj3, wj, a1, a2, a3]; exact ⟨rfl, rfl⟩)); try dsimp only [thn, inBlk])
      | (apply AWP.dE hmix [.n 0 [7], .n 1 [11], .n 2 [80, 81], .n 3 [82], .n 4 [83], .n 5 [5, 84], .n 6 [11, 84], .n 7 [85, 86, 84], .n 8 [87, 84], .n 9 [88, 84], .n 10 [89, 84], .n 11 [84, 90], .n 12 [91], .n 13 [5, 92], .n 14 [11, 92], .n 15 [1, 92], .n 16 [8, 92], .n 17 [95, 96, 92], .n 18 [93, 94, 92], .n 19 [98, 92], .n 20 [99, 97, 92], .n 21 [100, 92], .n 22 [92, 101]]; (focus kernel_rfl); (focus (simp [go_sem, hj2, hj3, wj, a1, a2, a3]; exact ⟨rfl, rfl⟩)); try dsimp only [thn, inBlk])
      | fail)
    exact ⟨ps.length - (j + 1), by omega, j + 1, nxt, by omega, rfl, hnl, hx.keep (fun p h => by rw [hcj] at h; cases h), by simp [go_sem], ku⟩
  | true =>
    rw [hb] at a3 hcj
    by_cases hk3 : ps[j].kd = 3
    · rw [hk3] at b3
      simp only [decide_true] at b3
      obtain ⟨ei, eo, ec, et, f1, f2, f3, k5⟩ := bs_put ku (j := j) (by omega)
      (repeat' first
        | refine AWP.seq ?_
        | refine AWP.block ?_
        | (refine AWP.skip ?_; try dsimp only [thn, inBlk])
        | (refine AWP.exit ?_; try simp only [thn, inBlk, if_true, reduceIte, Nat.reduceEqDiff])
        | (refine AWP.ret ?_; try dsimp only [thn, inBlk])
        | (refine AWP.condT ?_ ?_; (focus (simp [go_sem, hj2, hj3, a1, a2, a3, b1, b2, b3, f1, f2, f3]; done)))
        | (refine AWP.condF ?_ ?_; (focus (simp [go_sem, hj2, hj3, a1, a2, a3, b1, b2, b3, f1, f2, f3]; done)))
        | (apply AWP.rE; (focus (simp [go_sem, hj2, hj3, a1, a2, a3, b1, b2, b3, f1, f2, f3]; exact ⟨rfl, rfl⟩)); try dsimp only [thn, inBlk])
        | (apply AWP.dE hmix [.n 0 [7], .n 1 [11], .n 2 [80, 81], .n 3 [82], .n 4 [83], .n 5 [5, 84], .n 6 [11, 84], .n 7 [85, 86, 84], .n 8 [87, 84], .n 9 [88, 84], .n 10 [89, 84], .n 11 [84, 90], .n 12 [91], .n 13 [5, 92], .n 14 [11, 92], .n 15 [1, 92], .n 16 [8, 92], .n 17 [95, 96, 92], .n 18 [93, 94, 92], .n 19 [98, 92], .n 20 [99, 97, 92], .n 21 [100, 92], .n 22 [92, 101]]; (focus kernel_rfl); (focus (simp [go_sem, hj2, hj3, a1, a2, a3, b1, b2, b3, f1, f2, f3]; exact ⟨rfl, rfl⟩)); try dsimp only [thn, inBlk])
        | fail)
      obtain ⟨ci2, co2, cc2, ce2, cz2, ct2, cr2, a12, a22, a32⟩ := bs_at k5.b1 (j := j) (by omega) hcj
      obtain ⟨di2, do2, dc2, de2, dz2, dt2, dr2, b12, b22, b32, _, _, _⟩ := rpt_at k5.b2 hj2
      rw [hk3] at b32
      simp only [decide_true] at b32
      (repeat' first
        | refine AWP.seq ?_
        | refine AWP.block ?_
        | (refine AWP.skip ?_; try dsimp only [thn, inBlk])
        | (refine AWP.exit ?_; try simp only [thn, inBlk, if_true, reduceIte, Nat.reduceEqDiff])
        | (refine AWP.ret ?_; try dsimp only [thn, inBlk])
        | (refine AWP.condT ?_ ?_; (focus (simp [go_sem, hj2, hj3, wj, a12, a22, a32, b12, b22, b32]; done)))
        | (refine AWP.condF ?_ ?_; (focus (simp [go_sem, hj2, hj3, wj, a12, a22, a32, b12, b22, b32]; done)))
        | (apply AWP.rE; (focus (simp [go_sem, hj2, hj3, wj, a12, a22, a32, b12, b22, b32]; exact ⟨rfl, rfl⟩)); try dsimp only [thn, inBlk])
        | (apply AWP.dE hmix [.n 0 [7], .n 1 [11], .n 2 [80, 81], .n 3 [82], .n 4 [83], .n 5 [5, 84], .n 6 [11, 84], .n 7 [85, 86, 84], .n 8 [87, 84], .n 9 [88, 84], .n 10 [89, 84], .n 11 [84, 90], .n 12 [91], .n 13 [5, 92], .n 14 [11, 92], .n 15 [1, 92], .n 16 [8, 92], .n 17 [95, 96, 92], .n 18 [93, 94, 92], .n 19 [98, 92], .n 20 [99, 97, 92], .n 21 [100, 92], .n 22 [92, 101]]; (focus kernel_rfl); (focus (simp [go_sem, hj2, hj3, wj, a12, a22, a32, b12, b22, b32]; exact ⟨rfl, rfl⟩)); try dsimp only [thn, inBlk])
        | fail)
      exact ⟨ps.length - (j + 1), by omega, j + 1, nxt.set j true, by omega, rfl, by simpa using hnl, hx.run hcj hpj hk3 (by omega), by simp [go_sem], k5⟩
    · rw [decide_eq_false hk3] at b3
      cases hf : fits ps[j] c with
      | false =>
        rw [hf] at b4c
        (repeat' first
          | refine AWP.seq ?_
          | refine AWP.block ?_
          | (refine AWP.skip ?_; try dsimp only [thn, inBlk])
          | (refine AWP.exit ?_; try simp only [thn, inBlk, if_true, reduceIte, Nat.reduceEqDiff])
          | (refine AWP.ret ?_; try dsimp only [thn, inBlk])
          | (refine AWP.condT ?_ ?_; (focus (simp [go_sem, hj2, hj3, wj, a1, a2, a3, b1, b2, b3, b4c, hti, hilt, hilt', hc256, hc256']; done)))
          | (refine AWP.condF ?_ ?_; (focus (simp [go_sem, hj2, hj3, wj, a1, a2, a3, b1, b2, b3, b4c, hti, hilt, hilt', hc256, hc256']; done)))
          | (apply AWP.rE; (focus (simp [go_sem, hj2, hj3, wj, a1, a2, a3, b1, b2, b3, b4c, hti, hilt, hilt', hc256, hc256']; exact ⟨rfl, rfl⟩)); try dsimp only [thn, inBlk])
          | (apply AWP.dE hmix [.n 0 [7], .n 1 [11], .n 2 [80, 81], .n 3 [82], .n 4 [83], .n 5 [5, 84], .n 6 [11, 84], .n 7 [85, 86, 84], .n 8 [87, 84], .n 9 [88, 84], .n 10 [89, 84], .n 11 [84, 90], .n 12 [91], .n 13 [5, 92], .n 14 [11, 92], .n 15 [1, 92], .n 16 [8, 92], .n 17 [95, 96, 92], .n 18 [93, 94, 92], .n 19 [98, 92], .n 20 [99, 97, 92], .n 21 [100, 92], .n 22 [92, 101]]; (focus kernel_rfl); (focus (simp [go_sem, hj2, hj3, wj, a1, a2, a3, b1, b2, b3, b4c, hti, hilt, hilt', hc256, hc256']; exact ⟨rfl, rfl⟩)); try dsimp only [thn, inBlk])
          | fail)
        exact ⟨ps.length - (j + 1), by omega, j + 1, nxt, by omega, rfl, hnl, hx.keep (fun p h h' => by rw [hpj] at h'; cases h'; exact ⟨hk3, hf⟩), by simp [go_sem], ku⟩
      | true =>
        rw [hf] at b4c
        obtain ⟨j1, hj1⟩ : ∃ j1, j1 = j + 1 := ⟨_, rfl⟩; rw [← hj1] at wj
        obtain ⟨ei, eo, ec, et, f1, f2, f3, k5⟩ := bs_put ku (j := j1) (by omega)
        (repeat' first
          | refine AWP.seq ?_
          | refine AWP.block ?_
          | (refine AWP.skip ?_; try dsimp only [thn, inBlk])
          | (refine AWP.exit ?_; try simp only [thn, inBlk, if_true, reduceIte, Nat.reduceEqDiff])
          | (refine AWP.ret ?_; try dsimp only [thn, inBlk])
          | (refine AWP.condT ?_ ?_; (focus (simp [go_sem, hj2, hj3, wj, a1, a2, a3, b1, b2, b3, b4c, hti, hilt, hilt', hc256, hc256', f1, f2, f3]; done)))
          | (refine AWP.condF ?_ ?_; (focus (simp [go_sem, hj2, hj3, wj, a1, a2, a3, b1, b2, b3, b4c, hti, hilt, hilt', hc256, hc256', f1, f2, f3]; done)))
          | (apply AWP.rE; (focus (simp [go_sem, hj2, hj3, wj, a1, a2, a3, b1, b2, b3, b4c, hti, hilt, hilt', hc256, hc256', f1, f2, f3]; exact ⟨rfl, rfl⟩)); try dsimp only [thn, inBlk])
          | (apply AWP.dE hmix [.n 0 [7], .n 1 [11], .n 2 [80, 81], .n 3 [82], .n 4 [83], .n 5 [5, 84], .n 6 [11, 84], .n 7 [85, 86, 84], .n 8 [87, 84], .n 9 [88, 84], .n 10 [89, 84], .n 11 [84, 90], .n 12 [91], .n 13 [5, 92], .n 14 [11, 92], .n 15 [1, 92], .n 16 [8, 92], .n 17 [95, 96, 92], .n 18 [93, 94, 92], .n 19 [98, 92], .n 20 [99, 97, 92], .n 21 [100, 92], .n 22 [92, 101]]; (focus kernel_rfl); (focus (simp [go_sem, hj2, hj3, wj, a1, a2, a3, b1, b2, b3, b4c, hti, hilt, hilt', hc256, hc256', f1, f2, f3]; exact ⟨rfl, rfl⟩)); try dsimp only [thn, inBlk])
          | fail)
        subst hj1
        exact ⟨ps.length - (j + 1), by omega, j + 1, nxt.set (j + 1) true, by omega, rfl, by simpa using hnl, hx.hit hcj hpj hk3 hf (by omega), by simp [go_sem], k5⟩
end L15
