import Derived.Test.YtijnhagjfkfgcaaL12d
open Go Ab Go.Proofs
namespace L12
set_option autoImplicit false
set_option linter.unusedSimpArgs false
set_option linter.unusedVariables false

theorem au_all {l : List Au} (h : ∀ a ∈ l, a.Ok) : ∀ x ∈ l.map au, x.length = 19 := fun x hx => by
  obtain ⟨a, ha, rfl⟩ := List.mem_map.1 hx
  exact au_length (h a ha)
theorem au_ok (a : Au) : (au a).all okCell = true := by
  simp [go_sem]
/-- An authenticator of a list. -/
theorem au_at {O : Old} {h : AHeap} {R : List Chunk} {v : Value} {l : List Au} (k : Own O h (os 35 19 v l.length (l.map au).flatten :: R)) (hl : ∀ a ∈ l, a.Ok) {j : Nat} (hj : j < l.length) :
    ∃ i off c e' sz' ti ro, indexAddrP Try.prog 28 v (.int .i64 j) = some (.pointer (some ⟨i, off, none⟩)) ∧ h.obj i = some (.row c e' sz' ti ro) ∧ off + 19 ≤ c.length ∧ (c.drop off).take 19 = au l[j] ∧ c[off + 1]? = some (.int .i64 l[j].tm) := by
  obtain ⟨i, off, c, e', sz', ti, ro, q1, q2, q3, q4, q5⟩ := k.os_sl.record (P := Try.prog) (t := 28) (l := l.map au) Try.underlying28 tsz35 (au_all hl) (by simp) hj (kd := .i64)
  rw [List.getElem_map] at q4 q5
  exact ⟨i, off, c, e', sz', ti, ro, q1, q2, q3, q4, q5 1 _ rfl⟩
open Classical in
theorem au_eq {x a : Au} (hx : x.Ok) (ha : a.Ok) : aggEqR Try.prog .eql 35 (auV x) (auV a) = some (.bool (decide (x = a))) := by
  unfold aggEqR
  rw [if_pos ⟨auEq, auEnc.flat x, auEnc.flat a, ⟨_, rfl⟩, ⟨_, rfl⟩, auEnc.lit x hx, auEnc.lit a ha⟩]
  simp only []
  congr 2
  by_cases e : x = a
  · simp [e]
  · have : ¬ auV x = auV a := fun h => e (auV_inj _ _ h)
    simp [e, this]
theorem au_build {id : Nat} {a : Au} (ha : a.Ok) : buildSliceA Try.prog id 28 1 [(0, auV a)] = some (.slice (some ⟨id, 0, none⟩) 1 1, .row (au a) 35 19 true false) :=
  buildSlice1 Try.underlying28 tsz35 tz35 (by omega) (by show 19 ≠ 0; omega) (by omega) (by rfl) (au_length ha)

set_option maxHeartbeats 8000000 in
open Classical in
theorem refSeen_calls {O : Old} {h : AHeap} {R : List Chunk} {i : Nat} {l : List Au} {c : Bool} {u now : Int} {a : Au} (k : Own O h (rch i l c u :: R)) (kc : Cok l u) (ha : a.Ok) (hn : I64 now) :
    ACalls Try.prog 13 #[ptr i, auV a, .int .i64 now] h fun v h' => v = .int .i64 (seenR l c u a now).1 ∧ Own O h' (rch i (seenR l c u a now).2 c u :: R) := by
  refine ACalls.of_awp (args := [ptr i, auV a, .int .i64 now]) (n := 95) Try.func13 rfl rfl (by show 3 ≤ 95; omega) ?_
  have hk := ha.ky
  have hlen := kc.len
  obtain ⟨w, k0⟩ := rch_iff.1 k
  obtain ⟨va, vc, rfl⟩ := k0.b1.os_val
  have k1 := k0.push (.row (au a) 35 19 true false)
  have c1 := k1.b1.obj
  have cx := k1.obj
  refine AWP.seq ?_
  (apply AWP.rE; (focus (simp [go_sem, hk]; exact ⟨rfl, rfl⟩)); try dsimp only [thn, inBlk])
  generalize hh : h.push (.row (au a) 35 19 true false) = h2 at *
  have back : ∀ {hh : AHeap}, Own O hh (cell h.next (.row (au a) 35 19 true false) :: cell i (rrow (.slice va l.length vc) c u) :: os 35 19 (.slice va l.length vc) l.length (l.map au).flatten :: R) → Own O hh (rch i l c u :: R) := fun kk => rch_iff.2 ⟨_, kk.tail⟩
  have c2 := k1.b1.obj
  (repeat' first
    | refine AWP.seq ?_
    | refine AWP.block ?_
    | (refine AWP.skip ?_; try dsimp only [thn, inBlk])
    | (refine AWP.exit ?_; try simp only [thn, inBlk, if_true])
    | (refine AWP.ret ?_; try dsimp only [thn, inBlk])
    | (refine AWP.condT ?_ ?_; (focus (simp [go_sem]; done)))
    | (refine AWP.condF ?_ ?_; (focus (simp [go_sem]; done)))
    | (apply AWP.rE; (focus (simp [go_sem]; exact ⟨rfl, rfl⟩)); try dsimp only [thn, inBlk])
    | (apply AWP.dE hmix [.n 0 [8], .n 1 [65], .n 2 [0, 66], .n 3 [67, 66], .n 4 [68, 66], .n 5 [69, 66], .n 6 [9, 66], .n 7 [70, 71, 66], .n 8 [72, 66], .n 9 [4, 66], .n 10 [73, 74, 66], .n 11 [66, 75], .n 12 [76]]; (focus kernel_rfl); (focus (simp [go_sem]; exact ⟨rfl, rfl⟩)); try dsimp only [thn, inBlk])
    | (apply AWP.dE hmix [.n 0 [0], .n 1 [0], .n 2 [86], .n 3 [87], .n 4 [88], .n 5 [4], .n 6 [90], .w 7 [89, 91] [], .n 8 [85], .n 9 [93], .w 10 [94, 92] []]; (focus kernel_rfl); (focus (simp [go_sem]; exact ⟨rfl, rfl⟩)); try dsimp only [thn, inBlk])
    | fail)
  refine AWP.callE (by simp [go_sem, cx]; exact ⟨rfl, rfl, rfl, rfl, rfl⟩) (by kernel_rfl) ?_
  refine (refAbove_calls ha.tm hn).mono ?_
  rintro v h3 ⟨rfl, rfl⟩
  cases e1 : abv a.tm now with
  | true =>
    have es : seenR l c u a now = (65, l) := by unfold seenR; rw [if_pos (.inl e1)]
    rw [es]
    refine awpL_restE (by simp [go_sem]; exact ⟨rfl, rfl⟩) ?_; try dsimp only [thn, inBlk]
    (repeat' first
      | refine AWP.seq ?_
      | refine AWP.block ?_
      | (refine AWP.skip ?_; try dsimp only [thn, inBlk])
      | (refine AWP.exit ?_; try simp only [thn, inBlk, if_true])
      | (refine AWP.ret ?_; try dsimp only [thn, inBlk])
      | (refine AWP.condT ?_ ?_; (focus (simp [go_sem]; done)))
      | (refine AWP.condF ?_ ?_; (focus (simp [go_sem]; done)))
      | (apply AWP.rE; (focus (simp [go_sem]; exact ⟨rfl, rfl⟩)); try dsimp only [thn, inBlk])
      | (apply AWP.dE hmix [.n 0 [8], .n 1 [65], .n 2 [0, 66], .n 3 [67, 66], .n 4 [68, 66], .n 5 [69, 66], .n 6 [9, 66], .n 7 [70, 71, 66], .n 8 [72, 66], .n 9 [4, 66], .n 10 [73, 74, 66], .n 11 [66, 75], .n 12 [76]]; (focus kernel_rfl); (focus (simp [go_sem]; exact ⟨rfl, rfl⟩)); try dsimp only [thn, inBlk])
      | (apply AWP.dE hmix [.n 0 [0], .n 1 [0], .n 2 [86], .n 3 [87], .n 4 [88], .n 5 [4], .n 6 [90], .w 7 [89, 91] [], .n 8 [85], .n 9 [93], .w 10 [94, 92] []]; (focus kernel_rfl); (focus (simp [go_sem]; exact ⟨rfl, rfl⟩)); try dsimp only [thn, inBlk])
      | fail)
    simp [bodyQ, thn, inBlk, resA, resV, go_sem]
    exact back k1
  | false =>
  refine awpL_toCall (by simp [go_sem, cx]; exact ⟨rfl, rfl, rfl, rfl, rfl⟩) (by kernel_rfl) ?_
  refine (refAbove_calls hn ha.tm).mono ?_
  rintro v h3 ⟨rfl, rfl⟩
  cases e2 : abv now a.tm with
  | true =>
    have es : seenR l c u a now = (65, l) := by unfold seenR; rw [if_pos (.inr e2)]
    rw [es]
    refine awpL_restE (by simp [go_sem]; exact ⟨rfl, rfl⟩) ?_; try dsimp only [thn, inBlk]
    (repeat' first
      | refine AWP.seq ?_
      | refine AWP.block ?_
      | (refine AWP.skip ?_; try dsimp only [thn, inBlk])
      | (refine AWP.exit ?_; try simp only [thn, inBlk, if_true])
      | (refine AWP.ret ?_; try dsimp only [thn, inBlk])
      | (refine AWP.condT ?_ ?_; (focus (simp [go_sem]; done)))
      | (refine AWP.condF ?_ ?_; (focus (simp [go_sem]; done)))
      | (apply AWP.rE; (focus (simp [go_sem]; exact ⟨rfl, rfl⟩)); try dsimp only [thn, inBlk])
      | (apply AWP.dE hmix [.n 0 [8], .n 1 [65], .n 2 [0, 66], .n 3 [67, 66], .n 4 [68, 66], .n 5 [69, 66], .n 6 [9, 66], .n 7 [70, 71, 66], .n 8 [72, 66], .n 9 [4, 66], .n 10 [73, 74, 66], .n 11 [66, 75], .n 12 [76]]; (focus kernel_rfl); (focus (simp [go_sem]; exact ⟨rfl, rfl⟩)); try dsimp only [thn, inBlk])
      | (apply AWP.dE hmix [.n 0 [0], .n 1 [0], .n 2 [86], .n 3 [87], .n 4 [88], .n 5 [4], .n 6 [90], .w 7 [89, 91] [], .n 8 [85], .n 9 [93], .w 10 [94, 92] []]; (focus kernel_rfl); (focus (simp [go_sem]; exact ⟨rfl, rfl⟩)); try dsimp only [thn, inBlk])
      | fail)
    simp [bodyQ, thn, inBlk, resA, resV, go_sem]
    exact back k1
  | false =>
  have hno : ¬ (abv a.tm now = true ∨ abv now a.tm = true) := by simp [e1, e2]
  refine awpL_restE (by simp [go_sem]; exact ⟨rfl, rfl⟩) ?_; try dsimp only [thn, inBlk]
  (repeat' first
    | refine AWP.seq ?_
    | refine AWP.block ?_
    | (refine AWP.skip ?_; try dsimp only [thn, inBlk])
    | (refine AWP.exit ?_; try simp only [thn, inBlk, if_true])
    | (refine AWP.ret ?_; try dsimp only [thn, inBlk])
    | (refine AWP.condT ?_ ?_; (focus (simp [go_sem]; done)))
    | (refine AWP.condF ?_ ?_; (focus (simp [go_sem]; done)))
    | (apply AWP.rE; (focus (simp [go_sem]; exact ⟨rfl, rfl⟩)); try dsimp only [thn, inBlk])
    | (apply AWP.dE hmix [.n 0 [8], .n 1 [65], .n 2 [0, 66], .n 3 [67, 66], .n 4 [68, 66], .n 5 [69, 66], .n 6 [9, 66], .n 7 [70, 71, 66], .n 8 [72, 66], .n 9 [4, 66], .n 10 [73, 74, 66], .n 11 [66, 75], .n 12 [76]]; (focus kernel_rfl); (focus (simp [go_sem]; exact ⟨rfl, rfl⟩)); try dsimp only [thn, inBlk])
    | (apply AWP.dE hmix [.n 0 [0], .n 1 [0], .n 2 [86], .n 3 [87], .n 4 [88], .n 5 [4], .n 6 [90], .w 7 [89, 91] [], .n 8 [85], .n 9 [93], .w 10 [94, 92] []]; (focus kernel_rfl); (focus (simp [go_sem]; exact ⟨rfl, rfl⟩)); try dsimp only [thn, inBlk])
    | fail)
  refine AWP.cut2 [0, 2, 4, 6] (fun s h' => s = ⟨95, [(0, ptr i), (2, .int .i64 now), (4, ptr h.next), (6, .int .i64 0)]⟩ ∧ h' = h3 ∧ ¬ (c = true ∧ abv a.tm u = false)) ?_ ?_
  · cases c with
    | false =>
      (apply AWP.dE hmix [.n 0 [0], .n 1 [20], .n 2 [21], .n 3 [22], .n 4 [23], .n 5 [4, 24], .n 6 [25, 24], .n 7 [0, 24], .n 8 [27, 24], .n 9 [28, 24], .n 10 [29, 24], .w 11 [26, 30, 24] [], .n 12 [31, 24], .n 13 [24, 32]]; (focus kernel_rfl); (focus (simp [go_sem, c2]; exact ⟨rfl, rfl⟩)); try dsimp only [thn, inBlk])
      (repeat' first
        | refine AWP.seq ?_
        | refine AWP.block ?_
        | (refine AWP.skip ?_; try dsimp only [thn, inBlk])
        | (refine AWP.exit ?_; try simp only [thn, inBlk, if_true])
        | (refine AWP.ret ?_; try dsimp only [thn, inBlk])
        | (refine AWP.condT ?_ ?_; (focus (simp [go_sem]; done)))
        | (refine AWP.condF ?_ ?_; (focus (simp [go_sem]; done)))
        | (apply AWP.rE; (focus (simp [go_sem]; exact ⟨rfl, rfl⟩)); try dsimp only [thn, inBlk])
        | (apply AWP.dE hmix [.n 0 [8], .n 1 [65], .n 2 [0, 66], .n 3 [67, 66], .n 4 [68, 66], .n 5 [69, 66], .n 6 [9, 66], .n 7 [70, 71, 66], .n 8 [72, 66], .n 9 [4, 66], .n 10 [73, 74, 66], .n 11 [66, 75], .n 12 [76]]; (focus kernel_rfl); (focus (simp [go_sem]; exact ⟨rfl, rfl⟩)); try dsimp only [thn, inBlk])
        | (apply AWP.dE hmix [.n 0 [0], .n 1 [0], .n 2 [86], .n 3 [87], .n 4 [88], .n 5 [4], .n 6 [90], .w 7 [89, 91] [], .n 8 [85], .n 9 [93], .w 10 [94, 92] []]; (focus kernel_rfl); (focus (simp [go_sem]; exact ⟨rfl, rfl⟩)); try dsimp only [thn, inBlk])
        | fail)
      exact ⟨by simp [go_sem], rfl, by simp⟩
    | true =>
      refine AWP.draw hmix [.n 0 [0], .n 1 [20], .n 2 [21], .n 3 [22], .n 4 [23], .n 5 [4, 24], .n 6 [25, 24], .n 7 [0, 24], .n 8 [27, 24], .n 9 [28, 24], .n 10 [29, 24], .w 11 [26, 30, 24] [], .n 12 [31, 24], .n 13 [24, 32]] (by kernel_rfl) ?_
      refine awpD_callR 11 (by rfl) (by rfl) (by simp [go_sem, cx, c2]; exact ⟨rfl, rfl, rfl⟩) (by rfl) (by rfl) (by simp [go_sem]) (by simp [go_sem, cx, c2]; exact ⟨rfl, rfl⟩) (by kernel_rfl) ?_
      refine (refAbove_calls ha.tm kc.un).mono ?_
      rintro v h4 ⟨rfl, rfl⟩
      refine ⟨by simp [still, go_sem, cx, c2], ?_⟩
      cases e3 : abv a.tm u with
      | false =>
        have es : seenR l true u a now = (68, l) := by unfold seenR; rw [if_neg hno, if_pos ⟨rfl, e3⟩]
        rw [es]
        refine awpD_restR (by rfl) (by simp [go_sem]; exact ⟨rfl, rfl, rfl⟩) ?_; try dsimp only [thn, inBlk]
        (repeat' first
          | refine AWP.seq ?_
          | refine AWP.block ?_
          | (refine AWP.skip ?_; try dsimp only [thn, inBlk])
          | (refine AWP.exit ?_; try simp only [thn, inBlk, if_true])
          | (refine AWP.ret ?_; try dsimp only [thn, inBlk])
          | (refine AWP.condT ?_ ?_; (focus (simp [go_sem]; done)))
          | (refine AWP.condF ?_ ?_; (focus (simp [go_sem]; done)))
          | (apply AWP.rE; (focus (simp [go_sem]; exact ⟨rfl, rfl⟩)); try dsimp only [thn, inBlk])
          | (apply AWP.dE hmix [.n 0 [8], .n 1 [65], .n 2 [0, 66], .n 3 [67, 66], .n 4 [68, 66], .n 5 [69, 66], .n 6 [9, 66], .n 7 [70, 71, 66], .n 8 [72, 66], .n 9 [4, 66], .n 10 [73, 74, 66], .n 11 [66, 75], .n 12 [76]]; (focus kernel_rfl); (focus (simp [go_sem]; exact ⟨rfl, rfl⟩)); try dsimp only [thn, inBlk])
          | (apply AWP.dE hmix [.n 0 [0], .n 1 [0], .n 2 [86], .n 3 [87], .n 4 [88], .n 5 [4], .n 6 [90], .w 7 [89, 91] [], .n 8 [85], .n 9 [93], .w 10 [94, 92] []]; (focus kernel_rfl); (focus (simp [go_sem]; exact ⟨rfl, rfl⟩)); try dsimp only [thn, inBlk])
          | fail)
        simp [bodyQ, thn, inBlk, resA, resV, go_sem]
        exact back k1
      | true =>
        refine awpD_restR (by rfl) (by simp [go_sem]; exact ⟨rfl, rfl, rfl⟩) ?_; try dsimp only [thn, inBlk]
        (repeat' first
          | refine AWP.seq ?_
          | refine AWP.block ?_
          | (refine AWP.skip ?_; try dsimp only [thn, inBlk])
          | (refine AWP.exit ?_; try simp only [thn, inBlk, if_true])
          | (refine AWP.ret ?_; try dsimp only [thn, inBlk])
          | (refine AWP.condT ?_ ?_; (focus (simp [go_sem]; done)))
          | (refine AWP.condF ?_ ?_; (focus (simp [go_sem]; done)))
          | (apply AWP.rE; (focus (simp [go_sem]; exact ⟨rfl, rfl⟩)); try dsimp only [thn, inBlk])
          | (apply AWP.dE hmix [.n 0 [8], .n 1 [65], .n 2 [0, 66], .n 3 [67, 66], .n 4 [68, 66], .n 5 [69, 66], .n 6 [9, 66], .n 7 [70, 71, 66], .n 8 [72, 66], .n 9 [4, 66], .n 10 [73, 74, 66], .n 11 [66, 75], .n 12 [76]]; (focus kernel_rfl); (focus (simp [go_sem]; exact ⟨rfl, rfl⟩)); try dsimp only [thn, inBlk])
          | (apply AWP.dE hmix [.n 0 [0], .n 1 [0], .n 2 [86], .n 3 [87], .n 4 [88], .n 5 [4], .n 6 [90], .w 7 [89, 91] [], .n 8 [85], .n 9 [93], .w 10 [94, 92] []]; (focus kernel_rfl); (focus (simp [go_sem]; exact ⟨rfl, rfl⟩)); try dsimp only [thn, inBlk])
          | fail)
        exact ⟨by simp [go_sem], rfl, by simp⟩
  rintro s h4 ⟨rfl, rfl, hnq⟩
  (repeat' first
    | refine AWP.seq ?_
    | refine AWP.block ?_
    | (refine AWP.skip ?_; try dsimp only [thn, inBlk])
    | (refine AWP.exit ?_; try simp only [thn, inBlk, if_true])
    | (refine AWP.ret ?_; try dsimp only [thn, inBlk])
    | (refine AWP.condT ?_ ?_; (focus (simp [go_sem]; done)))
    | (refine AWP.condF ?_ ?_; (focus (simp [go_sem]; done)))
    | (apply AWP.rE; (focus (simp [go_sem]; exact ⟨rfl, rfl⟩)); try dsimp only [thn, inBlk])
    | (apply AWP.dE hmix [.n 0 [8], .n 1 [65], .n 2 [0, 66], .n 3 [67, 66], .n 4 [68, 66], .n 5 [69, 66], .n 6 [9, 66], .n 7 [70, 71, 66], .n 8 [72, 66], .n 9 [4, 66], .n 10 [73, 74, 66], .n 11 [66, 75], .n 12 [76]]; (focus kernel_rfl); (focus (simp [go_sem]; exact ⟨rfl, rfl⟩)); try dsimp only [thn, inBlk])
    | (apply AWP.dE hmix [.n 0 [0], .n 1 [0], .n 2 [86], .n 3 [87], .n 4 [88], .n 5 [4], .n 6 [90], .w 7 [89, 91] [], .n 8 [85], .n 9 [93], .w 10 [94, 92] []]; (focus kernel_rfl); (focus (simp [go_sem]; exact ⟨rfl, rfl⟩)); try dsimp only [thn, inBlk])
    | fail)
  have kl := kc.left now
  have hll : (left l now).length ≤ l.length := (left_sub l now).length_le
  have t16 : List.take 16 (a.ky.map B) = a.ky.map B := List.take_of_length_le (by simp [hk])
  have t16' : List.take 16 a.ky = a.ky := List.take_of_length_le (by omega)
  have knew : Own O _ (os 35 19 (.slice (some ⟨h4.next, 0, none⟩) 0 0) 0 [] :: _) := (k1.push (.row [] 35 19 true false)).os_mk (n := 0) (cap := 0) (off := 0) (cs := []) (Nat.le_refl _) (by simp) (by simp)
  refine AWP.loopR [0, 2, 4, 6, 7, 8, 9] (fun m s h' => ∃ (j : Nat) (la : Option Addr) (lc : Nat), j ≤ l.length ∧ m = l.length - j ∧
    s = ⟨95, [(0, ptr i), (2, .int .i64 now), (4, ptr h.next), (6, .int .i64 0), (7, .slice la (left (l.take j) now).length lc), (8, .bool (decide (a ∈ left (l.take j) now))), (9, .int .i64 j)]⟩ ∧
    Own O h' (os 35 19 (.slice la (left (l.take j) now).length lc) (left (l.take j) now).length ((left (l.take j) now).map au).flatten :: cell h.next (.row (au a) 35 19 true false) :: cell i (rrow (.slice va l.length vc) c u) :: os 35 19 (.slice va l.length vc) l.length (l.map au).flatten :: R)) ?_ ?_
  · exact ⟨_, 0, some ⟨h4.next, 0, none⟩, 0, by omega, rfl, by simp [go_sem, left], by simpa [left] using knew⟩
  rintro m s h5 ⟨j, la, lc, hj, rfl, rfl, kt⟩
  have d1 := kt.b2.obj
  have d0 := kt.b1.obj
  by_cases hj2 : j < l.length
  · have hj3 : (j : Int) < l.length := by omega
    have wj : IntKind.i64.wrap ((j : Int) + 1) = ((j + 1 : Nat) : Int) := by rw [wI64 (by omega) (by omega)]; omega
    obtain ⟨bi, bo, bc, be, bz, bt, br, p0, q0, g3, g2, g1⟩ := au_at kt.b3 kc.ok hj2
    have hx : l[j].Ok := kc.ok _ (List.getElem_mem hj2)
    have hst : left (l.take (j + 1)) now = left (l.take j) now ++ (if abv now l[j].tm then [] else [l[j]]) := by
      unfold left
      rw [List.take_succ_eq_append_getElem hj2, List.filter_append]
      congr 1
      cases e : abv now l[j].tm <;> simp [e]
    have hxm : l[j] ∈ l := List.getElem_mem hj2
    generalize hxe : l[j] = x at *
    (repeat' first
      | refine AWP.seq ?_
      | refine AWP.block ?_
      | (refine AWP.skip ?_; try dsimp only [thn, inBlk])
      | (refine AWP.exit ?_; try simp only [thn, inBlk, if_true])
      | (refine AWP.ret ?_; try dsimp only [thn, inBlk])
      | (refine AWP.condT ?_ ?_; (focus (simp [go_sem, d1, hj3]; done)))
      | (refine AWP.condF ?_ ?_; (focus (simp [go_sem, d1, hj3]; done)))
      | (apply AWP.rE; (focus (simp [go_sem, d1, hj3]; exact ⟨rfl, rfl⟩)); try dsimp only [thn, inBlk])
      | (apply AWP.dE hmix [.n 0 [8], .n 1 [65], .n 2 [0, 66], .n 3 [67, 66], .n 4 [68, 66], .n 5 [69, 66], .n 6 [9, 66], .n 7 [70, 71, 66], .n 8 [72, 66], .n 9 [4, 66], .n 10 [73, 74, 66], .n 11 [66, 75], .n 12 [76]]; (focus kernel_rfl); (focus (simp [go_sem, d1, hj3]; exact ⟨rfl, rfl⟩)); try dsimp only [thn, inBlk])
      | (apply AWP.dE hmix [.n 0 [0], .n 1 [0], .n 2 [86], .n 3 [87], .n 4 [88], .n 5 [4], .n 6 [90], .w 7 [89, 91] [], .n 8 [85], .n 9 [93], .w 10 [94, 92] []]; (focus kernel_rfl); (focus (simp [go_sem, d1, hj3]; exact ⟨rfl, rfl⟩)); try dsimp only [thn, inBlk])
      | fail)
    refine AWP.callE (by simp [go_sem, d1, p0, q0, g1]; exact ⟨rfl, rfl, rfl, rfl, rfl⟩) (by kernel_rfl) ?_
    refine (refAbove_calls hn hx.tm).mono ?_
    rintro v h6 ⟨rfl, rfl⟩
    cases e4 : abv now x.tm with
    | true =>
      rw [e4] at hst
      simp only [if_true, List.append_nil] at hst
      refine awpL_restE (by simp [go_sem]; exact ⟨rfl, rfl⟩) ?_; try dsimp only [thn, inBlk]
      (repeat' first
        | refine AWP.seq ?_
        | refine AWP.block ?_
        | (refine AWP.skip ?_; try dsimp only [thn, inBlk])
        | (refine AWP.exit ?_; try simp only [thn, inBlk, if_true])
        | (refine AWP.ret ?_; try dsimp only [thn, inBlk])
        | (refine AWP.condT ?_ ?_; (focus (simp [go_sem, wj]; done)))
        | (refine AWP.condF ?_ ?_; (focus (simp [go_sem, wj]; done)))
        | (apply AWP.rE; (focus (simp [go_sem, wj]; exact ⟨rfl, rfl⟩)); try dsimp only [thn, inBlk])
        | (apply AWP.dE hmix [.n 0 [8], .n 1 [65], .n 2 [0, 66], .n 3 [67, 66], .n 4 [68, 66], .n 5 [69, 66], .n 6 [9, 66], .n 7 [70, 71, 66], .n 8 [72, 66], .n 9 [4, 66], .n 10 [73, 74, 66], .n 11 [66, 75], .n 12 [76]]; (focus kernel_rfl); (focus (simp [go_sem, wj]; exact ⟨rfl, rfl⟩)); try dsimp only [thn, inBlk])
        | (apply AWP.dE hmix [.n 0 [0], .n 1 [0], .n 2 [86], .n 3 [87], .n 4 [88], .n 5 [4], .n 6 [90], .w 7 [89, 91] [], .n 8 [85], .n 9 [93], .w 10 [94, 92] []]; (focus kernel_rfl); (focus (simp [go_sem, wj]; exact ⟨rfl, rfl⟩)); try dsimp only [thn, inBlk])
        | fail)
      refine ⟨l.length - (j + 1), by omega, j + 1, la, lc, by omega, rfl, ?_, ?_⟩
      · rw [hst]; simp [go_sem]
      · rw [hst]; exact kt
    | false =>
      rw [e4] at hst
      simp only [Bool.false_eq_true, if_false] at hst
      have hb := au_build (id := h6.next) hx
      have hLl : (left (l.take j) now).length ≤ 16 := Nat.le_trans (left_sub _ now).length_le (by simp; omega)
      have hde : decide (a ∈ left (l.take (j + 1)) now) = (decide (a ∈ left (l.take j) now) || decide (x = a)) := by
        rw [hst]
        by_cases q1 : a ∈ left (l.take j) now <;> by_cases q2 : x = a <;> simp [q1, q2, eq_comm]
        all_goals (first | exact fun h => q2 h.symm | skip)
      generalize left (l.take j) now = L0 at *
      obtain ⟨na, nc, h7, e7, k7⟩ := Own.appN (P := Try.prog) (t := 28) (xt := 28) (m := 1) (xs := au x) (i := h6.next) Try.underlying28 tsz35 tby35 tz35 nI28 (by omega) (by omega) (by rfl) kt rfl (by rw [au_length hx]) (au_ok x) (by omega)
      have d7 := k7.b2.obj
      have d8 := k7.b1.obj
      obtain ⟨bi', bo', bc', be', bz', bt', br', p0', q0', g3', g2', g1'⟩ := au_at k7.b3 kc.ok hj2
      cases p0.symm.trans p0'
      rw [hxe] at g2' g1'
      have heq := au_eq hx ha
      refine awpL_restE (by simp [go_sem]; exact ⟨rfl, rfl⟩) ?_; try dsimp only [thn, inBlk]
      (repeat' first
        | refine AWP.seq ?_
        | refine AWP.block ?_
        | (refine AWP.skip ?_; try dsimp only [thn, inBlk])
        | (refine AWP.exit ?_; try simp only [thn, inBlk, if_true])
        | (refine AWP.ret ?_; try dsimp only [thn, inBlk])
        | (refine AWP.condT ?_ ?_; (focus (simp [go_sem, d1, p0, q0, g3, g2, ↓hb, e7]; done)))
        | (refine AWP.condF ?_ ?_; (focus (simp [go_sem, d1, p0, q0, g3, g2, ↓hb, e7]; done)))
        | (apply AWP.rE; (focus (simp [go_sem, d1, p0, q0, g3, g2, ↓hb, e7]; exact ⟨rfl, rfl⟩)); try dsimp only [thn, inBlk])
        | (apply AWP.dE hmix [.n 0 [8], .n 1 [65], .n 2 [0, 66], .n 3 [67, 66], .n 4 [68, 66], .n 5 [69, 66], .n 6 [9, 66], .n 7 [70, 71, 66], .n 8 [72, 66], .n 9 [4, 66], .n 10 [73, 74, 66], .n 11 [66, 75], .n 12 [76]]; (focus kernel_rfl); (focus (simp [go_sem, d1, p0, q0, g3, g2, ↓hb, e7]; exact ⟨rfl, rfl⟩)); try dsimp only [thn, inBlk])
        | (apply AWP.dE hmix [.n 0 [0], .n 1 [0], .n 2 [86], .n 3 [87], .n 4 [88], .n 5 [4], .n 6 [90], .w 7 [89, 91] [], .n 8 [85], .n 9 [93], .w 10 [94, 92] []]; (focus kernel_rfl); (focus (simp [go_sem, d1, p0, q0, g3, g2, ↓hb, e7]; exact ⟨rfl, rfl⟩)); try dsimp only [thn, inBlk])
        | fail)
      have fin : ∀ {b : Bool}, b = decide (a ∈ left (l.take (j + 1)) now) → ∃ m, m < l.length - j ∧ ∃ (j' : Nat) (la : Option Addr) (lc : Nat), j' ≤ l.length ∧ m = l.length - j' ∧
          (⟨95, [(0, ptr i), (2, .int .i64 now), (4, ptr h.next), (6, .int .i64 0), (7, .slice na (L0.length + 1) nc), (8, .bool b), (9, .int .i64 ((j + 1 : Nat) : Int))]⟩ : St) = ⟨95, [(0, ptr i), (2, .int .i64 now), (4, ptr h.next), (6, .int .i64 0), (7, .slice la (left (l.take j') now).length lc), (8, .bool (decide (a ∈ left (l.take j') now))), (9, .int .i64 j')]⟩ ∧
          Own O h7 (os 35 19 (.slice la (left (l.take j') now).length lc) (left (l.take j') now).length ((left (l.take j') now).map au).flatten :: cell h.next (.row (au a) 35 19 true false) :: cell i (rrow (.slice va l.length vc) c u) :: os 35 19 (.slice va l.length vc) l.length (l.map au).flatten :: R) := fun {b} hb => by
        refine ⟨l.length - (j + 1), by omega, j + 1, na, nc, by omega, rfl, ?_, ?_⟩
        · rw [hb, hst]; simp
        · rw [hst]; simpa using k7
      by_cases q1 : a ∈ L0
      · have hd1 : decide (a ∈ L0) = true := by simp [q1]
        rw [hd1] at hde ⊢
        (repeat' first
          | refine AWP.seq ?_
          | refine AWP.block ?_
          | (refine AWP.skip ?_; try dsimp only [thn, inBlk])
          | (refine AWP.exit ?_; try simp only [thn, inBlk, if_true])
          | (refine AWP.ret ?_; try dsimp only [thn, inBlk])
          | (refine AWP.condT ?_ ?_; (focus (simp [go_sem, d7, d8, wj]; done)))
          | (refine AWP.condF ?_ ?_; (focus (simp [go_sem, d7, d8, wj]; done)))
          | (apply AWP.rE; (focus (simp [go_sem, d7, d8, wj]; exact ⟨rfl, rfl⟩)); try dsimp only [thn, inBlk])
          | (apply AWP.dE hmix [.n 0 [8], .n 1 [65], .n 2 [0, 66], .n 3 [67, 66], .n 4 [68, 66], .n 5 [69, 66], .n 6 [9, 66], .n 7 [70, 71, 66], .n 8 [72, 66], .n 9 [4, 66], .n 10 [73, 74, 66], .n 11 [66, 75], .n 12 [76]]; (focus kernel_rfl); (focus (simp [go_sem, d7, d8, wj]; exact ⟨rfl, rfl⟩)); try dsimp only [thn, inBlk])
          | (apply AWP.dE hmix [.n 0 [0], .n 1 [0], .n 2 [86], .n 3 [87], .n 4 [88], .n 5 [4], .n 6 [90], .w 7 [89, 91] [], .n 8 [85], .n 9 [93], .w 10 [94, 92] []]; (focus kernel_rfl); (focus (simp [go_sem, d7, d8, wj]; exact ⟨rfl, rfl⟩)); try dsimp only [thn, inBlk])
          | fail)
        exact fin (b := true) (by rw [hde]; rfl)
      · have hd1 : decide (a ∈ L0) = false := by simp [q1]
        rw [hd1] at hde ⊢
        (repeat' first
          | refine AWP.seq ?_
          | refine AWP.block ?_
          | (refine AWP.skip ?_; try dsimp only [thn, inBlk])
          | (refine AWP.exit ?_; try simp only [thn, inBlk, if_true])
          | (refine AWP.ret ?_; try dsimp only [thn, inBlk])
          | (refine AWP.condT ?_ ?_; (focus (simp [go_sem, d7, d8, wj, p0, q0', g3', g2', heq, hk, t16, t16']; done)))
          | (refine AWP.condF ?_ ?_; (focus (simp [go_sem, d7, d8, wj, p0, q0', g3', g2', heq, hk, t16, t16']; done)))
          | (apply AWP.rE; (focus (simp [go_sem, d7, d8, wj, p0, q0', g3', g2', heq, hk, t16, t16']; exact ⟨rfl, rfl⟩)); try dsimp only [thn, inBlk])
          | (apply AWP.dE hmix [.n 0 [8], .n 1 [65], .n 2 [0, 66], .n 3 [67, 66], .n 4 [68, 66], .n 5 [69, 66], .n 6 [9, 66], .n 7 [70, 71, 66], .n 8 [72, 66], .n 9 [4, 66], .n 10 [73, 74, 66], .n 11 [66, 75], .n 12 [76]]; (focus kernel_rfl); (focus (simp [go_sem, d7, d8, wj, p0, q0', g3', g2', heq, hk, t16, t16']; exact ⟨rfl, rfl⟩)); try dsimp only [thn, inBlk])
          | (apply AWP.dE hmix [.n 0 [0], .n 1 [0], .n 2 [86], .n 3 [87], .n 4 [88], .n 5 [4], .n 6 [90], .w 7 [89, 91] [], .n 8 [85], .n 9 [93], .w 10 [94, 92] []]; (focus kernel_rfl); (focus (simp [go_sem, d7, d8, wj, p0, q0', g3', g2', heq, hk, t16, t16']; exact ⟨rfl, rfl⟩)); try dsimp only [thn, inBlk])
          | fail)
        exact fin (b := decide (x = a)) (by rw [hde]; simp)
  have hj3 : ¬ (j : Int) < l.length := by omega
  obtain rfl : j = l.length := by omega
  rw [List.take_of_length_le (Nat.le_refl _)] at kt ⊢
  have k9 := kt.b2.set (rrow (.slice la (left l now).length lc) c u)
  by_cases hm : a ∈ left l now
  · have es : seenR l c u a now = (66, left l now) := by unfold seenR; rw [if_neg hno, if_neg hnq, if_pos hm]
    have hd1 : decide (a ∈ left l now) = true := by simp [hm]
    rw [es, hd1]
    (repeat' first
      | refine AWP.seq ?_
      | refine AWP.block ?_
      | (refine AWP.skip ?_; try dsimp only [thn, inBlk])
      | (refine AWP.exit ?_; try simp only [thn, inBlk, if_true])
      | (refine AWP.ret ?_; try dsimp only [thn, inBlk])
      | (refine AWP.condT ?_ ?_; (focus (simp [go_sem, d1, hj3]; done)))
      | (refine AWP.condF ?_ ?_; (focus (simp [go_sem, d1, hj3]; done)))
      | (apply AWP.rE; (focus (simp [go_sem, d1, hj3]; exact ⟨rfl, rfl⟩)); try dsimp only [thn, inBlk])
      | (apply AWP.dE hmix [.n 0 [8], .n 1 [65], .n 2 [0, 66], .n 3 [67, 66], .n 4 [68, 66], .n 5 [69, 66], .n 6 [9, 66], .n 7 [70, 71, 66], .n 8 [72, 66], .n 9 [4, 66], .n 10 [73, 74, 66], .n 11 [66, 75], .n 12 [76]]; (focus kernel_rfl); (focus (simp [go_sem, d1, hj3]; exact ⟨rfl, rfl⟩)); try dsimp only [thn, inBlk])
      | (apply AWP.dE hmix [.n 0 [0], .n 1 [0], .n 2 [86], .n 3 [87], .n 4 [88], .n 5 [4], .n 6 [90], .w 7 [89, 91] [], .n 8 [85], .n 9 [93], .w 10 [94, 92] []]; (focus kernel_rfl); (focus (simp [go_sem, d1, hj3]; exact ⟨rfl, rfl⟩)); try dsimp only [thn, inBlk])
      | fail)
    simp [bodyQ, thn, inBlk, resA, resV, go_sem]
    exact rch_iff.2 ⟨_, by (refine Own.sbl ?_ (k9); repeat' first | exact Sbl.nil _ | with_reducible exact Sbl.rfl _ | (apply Sbl.cons) | (apply Sbl.skip) | with_reducible exact Fnd.head _ _ | (apply Fnd.tail))⟩
  have hd1 : decide (a ∈ left l now) = false := by simp [hm]
  by_cases h16 : 16 ≤ (left l now).length
  · have es : seenR l c u a now = (2, left l now) := by unfold seenR; rw [if_neg hno, if_neg hnq, if_neg hm, if_pos h16]
    have h16' : (16 : Int) ≤ ((left l now).length : Int) := by omega
    rw [es, hd1]
    (repeat' first
      | refine AWP.seq ?_
      | refine AWP.block ?_
      | (refine AWP.skip ?_; try dsimp only [thn, inBlk])
      | (refine AWP.exit ?_; try simp only [thn, inBlk, if_true])
      | (refine AWP.ret ?_; try dsimp only [thn, inBlk])
      | (refine AWP.condT ?_ ?_; (focus (simp [go_sem, d1, hj3, h16, h16']; done)))
      | (refine AWP.condF ?_ ?_; (focus (simp [go_sem, d1, hj3, h16, h16']; done)))
      | (apply AWP.rE; (focus (simp [go_sem, d1, hj3, h16, h16']; exact ⟨rfl, rfl⟩)); try dsimp only [thn, inBlk])
      | (apply AWP.dE hmix [.n 0 [8], .n 1 [65], .n 2 [0, 66], .n 3 [67, 66], .n 4 [68, 66], .n 5 [69, 66], .n 6 [9, 66], .n 7 [70, 71, 66], .n 8 [72, 66], .n 9 [4, 66], .n 10 [73, 74, 66], .n 11 [66, 75], .n 12 [76]]; (focus kernel_rfl); (focus (simp [go_sem, d1, hj3, h16, h16']; exact ⟨rfl, rfl⟩)); try dsimp only [thn, inBlk])
      | (apply AWP.dE hmix [.n 0 [0], .n 1 [0], .n 2 [86], .n 3 [87], .n 4 [88], .n 5 [4], .n 6 [90], .w 7 [89, 91] [], .n 8 [85], .n 9 [93], .w 10 [94, 92] []]; (focus kernel_rfl); (focus (simp [go_sem, d1, hj3, h16, h16']; exact ⟨rfl, rfl⟩)); try dsimp only [thn, inBlk])
      | fail)
    simp [bodyQ, thn, inBlk, resA, resV, go_sem]
    exact rch_iff.2 ⟨_, by (refine Own.sbl ?_ (k9); repeat' first | exact Sbl.nil _ | with_reducible exact Sbl.rfl _ | (apply Sbl.cons) | (apply Sbl.skip) | with_reducible exact Fnd.head _ _ | (apply Fnd.tail))⟩
  have es : seenR l c u a now = (0, left l now ++ [a]) := by unfold seenR; rw [if_neg hno, if_neg hnq, if_neg hm, if_neg h16]
  have h16' : ¬ (16 : Int) ≤ ((left l now).length : Int) := by omega
  rw [es, hd1]
  generalize hh9 : h5.set i (rrow (.slice la (left l now).length lc) c u) = h9 at *
  have hb := au_build (id := h9.next) ha
  obtain ⟨na, nc, h10, e10, k10⟩ := Own.appN (P := Try.prog) (t := 28) (xt := 28) (m := 1) (xs := au a) (i := h9.next) Try.underlying28 tsz35 tby35 tz35 nI28 (by omega) (by omega) (by rfl) k9.b1 rfl (by rw [au_length ha]) (au_ok a) (by omega)
  have d9 := k9.obj
  have d9' := k9.b2.obj
  have d10 := k10.b1.obj
  have k11 := k10.b1.set (rrow (.slice na ((left l now).length + 1) nc) c u)
  (repeat' first
    | refine AWP.seq ?_
    | refine AWP.block ?_
    | (refine AWP.skip ?_; try dsimp only [thn, inBlk])
    | (refine AWP.exit ?_; try simp only [thn, inBlk, if_true])
    | (refine AWP.ret ?_; try dsimp only [thn, inBlk])
    | (refine AWP.condT ?_ ?_; (focus (simp [go_sem, d1, hj3, h16, h16', hh9]; done)))
    | (refine AWP.condF ?_ ?_; (focus (simp [go_sem, d1, hj3, h16, h16', hh9]; done)))
    | (apply AWP.rE; (focus (simp [go_sem, d1, hj3, h16, h16', hh9]; exact ⟨rfl, rfl⟩)); try dsimp only [thn, inBlk])
    | (apply AWP.dE hmix [.n 0 [8], .n 1 [65], .n 2 [0, 66], .n 3 [67, 66], .n 4 [68, 66], .n 5 [69, 66], .n 6 [9, 66], .n 7 [70, 71, 66], .n 8 [72, 66], .n 9 [4, 66], .n 10 [73, 74, 66], .n 11 [66, 75], .n 12 [76]]; (focus kernel_rfl); (focus (simp [go_sem, d1, hj3, h16, h16', hh9]; exact ⟨rfl, rfl⟩)); try dsimp only [thn, inBlk])
    | (apply AWP.dE hmix [.n 0 [0], .n 1 [0], .n 2 [86], .n 3 [87], .n 4 [88], .n 5 [4], .n 6 [90], .w 7 [89, 91] [], .n 8 [85], .n 9 [93], .w 10 [94, 92] []]; (focus kernel_rfl); (focus (simp [go_sem, d1, hj3, h16, h16', hh9]; exact ⟨rfl, rfl⟩)); try dsimp only [thn, inBlk])
    | fail)
  (repeat' first
    | refine AWP.seq ?_
    | refine AWP.block ?_
    | (refine AWP.skip ?_; try dsimp only [thn, inBlk])
    | (refine AWP.exit ?_; try simp only [thn, inBlk, if_true])
    | (refine AWP.ret ?_; try dsimp only [thn, inBlk])
    | (refine AWP.condT ?_ ?_; (focus (simp [go_sem, d9, d9', ↓hb, e10, d10, hk, t16, t16']; done)))
    | (refine AWP.condF ?_ ?_; (focus (simp [go_sem, d9, d9', ↓hb, e10, d10, hk, t16, t16']; done)))
    | (apply AWP.rE; (focus (simp [go_sem, d9, d9', ↓hb, e10, d10, hk, t16, t16']; exact ⟨rfl, rfl⟩)); try dsimp only [thn, inBlk])
    | (apply AWP.dE hmix [.n 0 [8], .n 1 [65], .n 2 [0, 66], .n 3 [67, 66], .n 4 [68, 66], .n 5 [69, 66], .n 6 [9, 66], .n 7 [70, 71, 66], .n 8 [72, 66], .n 9 [4, 66], .n 10 [73, 74, 66], .n 11 [66, 75], .n 12 [76]]; (focus kernel_rfl); (focus (simp [go_sem, d9, d9', ↓hb, e10, d10, hk, t16, t16']; exact ⟨rfl, rfl⟩)); try dsimp only [thn, inBlk])
    | (apply AWP.dE hmix [.n 0 [0], .n 1 [0], .n 2 [86], .n 3 [87], .n 4 [88], .n 5 [4], .n 6 [90], .w 7 [89, 91] [], .n 8 [85], .n 9 [93], .w 10 [94, 92] []]; (focus kernel_rfl); (focus (simp [go_sem, d9, d9', ↓hb, e10, d10, hk, t16, t16']; exact ⟨rfl, rfl⟩)); try dsimp only [thn, inBlk])
    | fail)
  simp [bodyQ, thn, inBlk, resA, resV, go_sem]
  refine rch_iff.2 ⟨.slice na ((left l now).length + 1) nc, ?_⟩
  have e1 : ((left l now ++ [a]).map au).flatten = ((left l now).map au).flatten ++ au a := by simp
  have e2 : (left l now ++ [a]).length = (left l now).length + 1 := by simp
  rw [e1, e2]
  (refine Own.sbl ?_ (k11); repeat' first | exact Sbl.nil _ | with_reducible exact Sbl.rfl _ | (apply Sbl.cons) | (apply Sbl.skip) | with_reducible exact Fnd.head _ _ | (apply Fnd.tail))
end L12
