import Derived.Test.YtjlcednpohgamaaL17a
open Go Ab Go.Proofs
namespace L17
set_option autoImplicit false
set_option linter.unusedSimpArgs false
set_option linter.unusedVariables false

theorem nxt_len {r r' : List UInt8} {b b' : Int} {f : Fr} (h : nxt r b = (some f, r', b')) : r'.length < r.length := by
  unfold nxt at h
  split at h
  · split at h
    · cases h
    · split at h
      · split at h
        · cases h
        · split at h
          · cases h
          · split at h
            · cases h
            · cases h; simp; omega
      · cases h
  · cases h

theorem nxt_some {r r' : List UInt8} {b b' : Int} {f : Fr} (h : nxt r b = (some f, r', b')) : b' = 0 ∧ f.2.length ≤ 512 := by
  unfold nxt at h
  split at h
  · split at h
    · cases h
    · split at h
      · split at h
        · cases h
        · split at h
          · cases h
          · split at h
            · cases h
            · cases h; simp; omega
      · cases h
  · cases h

theorem nxt_none {r r' : List UInt8} {b b' : Int} (h : nxt r b = (none, r', b')) : r' = r := by
  unfold nxt at h
  repeat' split at h
  all_goals first | (cases h; rfl) | cases h

/-- All whole frames of bytes; what is left; the error that is met. -/
def parse (r : List UInt8) : List Fr × List UInt8 × Int :=
  match h : nxt r 0 with
  | (some f, r', _) => (f :: (parse r').1, (parse r').2)
  | (none, r', b) => ([], r', b)
termination_by r.length
decreasing_by all_goals exact nxt_len h

theorem parse_some {r r' : List UInt8} {b : Int} {f : Fr} (h : nxt r 0 = (some f, r', b)) : parse r = (f :: (parse r').1, (parse r').2) := by
  rw [parse]
  split
  · rename_i f1 r1 b1 h1; rw [h] at h1; cases h1; rfl
  · rename_i r1 b1 h1; rw [h] at h1; cases h1
theorem parse_none {r r' : List UInt8} {b : Int} (h : nxt r 0 = (none, r', b)) : parse r = ([], r, b) := by
  rw [parse]
  split
  · rename_i f1 r1 b1 h1; rw [h] at h1; cases h1
  · rename_i r1 b1 h1; rw [h] at h1; cases h1; rw [nxt_none h]

abbrev pre (c : Int) : List Value := [.int .i64 c]
abbrev frs (v : Value) (fs : List Fr) : Chunk := brecs pre 36 2 5 v fs

/-- What a piece comes to: the frames, what is left, and the error. -/
def feedR (r : List UInt8) (b : Int) (xs : List UInt8) : List Fr × List UInt8 × Int :=
  if b = 0 then (if (parse (r ++ xs)).2.2 = 0 then parse (r ++ xs) else ([], [], (parse (r ++ xs)).2.2)) else ([], [], b)

/-- The loop's head. -/
structure FI (r : List UInt8) (b : Int) (xs : List UInt8) (fs1 : List Fr) (r1 : List UInt8) (b1 : Int) : Prop where
  good : b = 0 → b1 = 0 ∧ parse (r ++ xs) = (fs1 ++ (parse r1).1, (parse r1).2)
  bad : b ≠ 0 → b1 = b ∧ r1 = [] ∧ fs1 = []
  size : fs1.length + r1.length ≤ 1000000000

theorem FI.fin {r r1 r2 xs : List UInt8} {b b1 b2 : Int} {fs1 : List Fr} (fi : FI r b xs fs1 r1 b1) (h : nxt r1 b1 = (none, r2, b2)) : r2 = r1 ∧ feedR r b xs = if b2 = 0 then (fs1, r1, 0) else ([], [], b2) := by
  have e := nxt_none h
  refine ⟨e, ?_⟩
  by_cases hb : b = 0
  · obtain ⟨rfl, e2⟩ := fi.good hb
    rw [parse_none h] at e2
    simp only [List.append_nil] at e2
    simp only [feedR, e2, hb, if_true]
    by_cases h2 : b2 = 0
    · simp [h2]
    · simp [h2]
  · obtain ⟨rfl, rfl, rfl⟩ := fi.bad hb
    have : b2 = b1 := by have h' : (none, ([] : List UInt8), b1) = ((none : Option Fr), r2, b2) := h; cases h'; rfl
    subst this
    simp [feedR, hb]
theorem FI.step {r r1 r2 xs : List UInt8} {b b1 b2 : Int} {fs1 : List Fr} {f : Fr} (fi : FI r b xs fs1 r1 b1) (h : nxt r1 b1 = (some f, r2, b2)) : FI r b xs (fs1 ++ [f]) r2 b2 := by
  have hl := nxt_len h
  have hz := (nxt_some h).1
  have hs := fi.size
  by_cases hb : b = 0
  · obtain ⟨rfl, e2⟩ := fi.good hb
    rw [parse_some h] at e2
    exact ⟨fun _ => ⟨hz, by simpa using e2⟩, fun e => absurd hb e, by simp; omega⟩
  · obtain ⟨rfl, rfl, rfl⟩ := fi.bad hb
    have h' : (none, ([] : List UInt8), b1) = (some f, r2, b2) := h
    cases h'

set_option maxHeartbeats 2000000 in
theorem feed_calls' {O : Old} {h : AHeap} {R : List Chunk} {i : Nat} {r xs : List UInt8} {b : Int} {xv : Value} (k : Own O h (rdr i r b :: R)) (hx : ∀ h, Own O h R → Bytes h xv xs) (hi : b ≠ 0 → r = []) (hm : b = 0 → r.length + xs.length ≤ 1000000000) :
    ACalls Try.prog 9 #[ptr i, xv] h fun v h' => ∃ a cap, v = .tuple #[.slice a (feedR r b xs).1.length cap, .int .i64 (feedR r b xs).2.2] ∧ Own O h' (rdr i (feedR r b xs).2.1 (feedR r b xs).2.2 :: frs (.slice a (feedR r b xs).1.length cap) (feedR r b xs).1 :: R) := by
  obtain ⟨a, cap, k1⟩ := rdr_iff.1 k
  have c1 := k1.obj
  obtain ⟨xa, xc, rfl⟩ := (hx h k.tail).val
  refine ACalls.of_awp (args := [ptr i, .slice xa xs.length xc]) (n := 46) Try.func9 rfl rfl (by show 2 ≤ 46; omega) ?_
  refine AWP.seq ?_
  (apply AWP.rE; (focus (simp [go_sem]; exact ⟨rfl, rfl⟩)); try dsimp only [thn, inBlk])
  refine AWP.cut [0, 4] (fun s h' => ∃ r1 b1, s = ⟨46, [(0, ptr i), (4, .slice none 0 0)]⟩ ∧ FI r b xs [] r1 b1 ∧ Own O h' (rdr i r1 b1 :: R)) ?_ ?_
  · by_cases hb : b = 0
    · subst hb
      have hm := hm rfl
      (repeat' first
        | refine AWP.seq ?_
        | refine AWP.block ?_
        | (refine AWP.skip ?_; try dsimp only [thn, inBlk])
        | (refine AWP.exit ?_; try simp only [thn, inBlk, if_true])
        | (refine AWP.ret ?_; try dsimp only [thn, inBlk])
        | (refine AWP.condT ?_ ?_; (focus (simp [go_sem, c1]; done)))
        | (refine AWP.condF ?_ ?_; (focus (simp [go_sem, c1]; done)))
        | (apply AWP.rE; (focus (simp [go_sem, c1]; exact ⟨rfl, rfl⟩)); try dsimp only [thn, inBlk])
        | (apply AWP.dE hmix [.n 0 [4], .n 1 [0], .n 2 [42], .n 3 [43], .n 4 [44], .n 5 [41], .n 6 [45]]; (focus kernel_rfl); (focus (simp [go_sem, c1]; exact ⟨rfl, rfl⟩)); try dsimp only [thn, inBlk])
        | fail)
      refine AWP.callE (by simp [go_sem, c1]; exact ⟨rfl, rfl, rfl, rfl, rfl⟩) (by kernel_rfl) ?_
      refine (clone_calls (bs := r) k1 (fun hh kk => kk.tail.ob_bytes) (by omega)).mono ?_
      rintro v h' ⟨a2, c2, rfl, k2⟩
      obtain ⟨a3, c3, h3, e3, k3⟩ := k2.appB (P := Try.prog) (t := 26) (xt := 26) Try.underlying26 tsz5 tby5 tz5 nI26 (hx h' k2.tail.tail.tail).src (by omega)
      have d1 := k3.b1.obj
      have k4 := k3.b1.set (row (.slice a3 (r.length + xs.length) c3) 0)
      refine awpL_restE (by simp [go_sem, e3, d1]; exact ⟨rfl, rfl⟩) ?_; try dsimp only [thn, inBlk]
      exact ⟨r ++ xs, 0, rfl, ⟨fun _ => ⟨rfl, by simp⟩, fun e => absurd rfl e, by simp; omega⟩, rdr_iff.2 ⟨a3, c3, by rw [List.length_append]; exact k4.d2⟩⟩
    · obtain rfl := hi hb
      have hb' : (b == 0) = false := by simpa using hb
      (repeat' first
        | refine AWP.seq ?_
        | refine AWP.block ?_
        | (refine AWP.skip ?_; try dsimp only [thn, inBlk])
        | (refine AWP.exit ?_; try simp only [thn, inBlk, if_true])
        | (refine AWP.ret ?_; try dsimp only [thn, inBlk])
        | (refine AWP.condT ?_ ?_; (focus (simp [go_sem, c1, hb']; done)))
        | (refine AWP.condF ?_ ?_; (focus (simp [go_sem, c1, hb']; done)))
        | (apply AWP.rE; (focus (simp [go_sem, c1, hb']; exact ⟨rfl, rfl⟩)); try dsimp only [thn, inBlk])
        | (apply AWP.dE hmix [.n 0 [4], .n 1 [0], .n 2 [42], .n 3 [43], .n 4 [44], .n 5 [41], .n 6 [45]]; (focus kernel_rfl); (focus (simp [go_sem, c1, hb']; exact ⟨rfl, rfl⟩)); try dsimp only [thn, inBlk])
        | fail)
      exact ⟨[], b, rfl, ⟨fun e => absurd e hb, fun _ => ⟨rfl, rfl, rfl⟩, by simp⟩, k⟩
  · rintro s h' ⟨r1, b1, rfl, fi, k1⟩
    (repeat' first
      | refine AWP.seq ?_
      | refine AWP.block ?_
      | (refine AWP.skip ?_; try dsimp only [thn, inBlk])
      | (refine AWP.exit ?_; try simp only [thn, inBlk, if_true])
      | (refine AWP.ret ?_; try dsimp only [thn, inBlk])
      | (refine AWP.condT ?_ ?_; (focus (simp [go_sem]; done)))
      | (refine AWP.condF ?_ ?_; (focus (simp [go_sem]; done)))
      | (apply AWP.rE; (focus (simp [go_sem]; exact ⟨rfl, rfl⟩)); try dsimp only [thn, inBlk])
      | (apply AWP.dE hmix [.n 0 [4], .n 1 [0], .n 2 [42], .n 3 [43], .n 4 [44], .n 5 [41], .n 6 [45]]; (focus kernel_rfl); (focus (simp [go_sem]; exact ⟨rfl, rfl⟩)); try dsimp only [thn, inBlk])
      | fail)
    refine AWP.loopR [0, 4] (fun m s h' => ∃ a1 cap1 fs1 r1 b1, m = r1.length ∧ s = ⟨46, [(0, ptr i), (4, .slice a1 fs1.length cap1)]⟩ ∧ FI r b xs fs1 r1 b1 ∧ Own O h' (rdr i r1 b1 :: frs (.slice a1 fs1.length cap1) fs1 :: R)) ?_ ?_
    · exact ⟨_, none, 0, [], r1, b1, rfl, rfl, fi, (k1.brecs_nil 36 2 5).b1⟩
    rintro m s h' ⟨a1, cap1, fs1, r1, b1, rfl, rfl, fi, k1⟩
    have hn := next_calls (k1) (by have := fi.size; omega)
    (repeat' first
      | refine AWP.seq ?_
      | refine AWP.block ?_
      | (refine AWP.skip ?_; try dsimp only [thn, inBlk])
      | (refine AWP.exit ?_; try simp only [thn, inBlk, if_true])
      | (refine AWP.ret ?_; try dsimp only [thn, inBlk])
      | (refine AWP.condT ?_ ?_; (focus (simp [go_sem]; done)))
      | (refine AWP.condF ?_ ?_; (focus (simp [go_sem]; done)))
      | (apply AWP.rE; (focus (simp [go_sem]; exact ⟨rfl, rfl⟩)); try dsimp only [thn, inBlk])
      | (apply AWP.dE hmix [.n 0 [4], .n 1 [0], .n 2 [42], .n 3 [43], .n 4 [44], .n 5 [41], .n 6 [45]]; (focus kernel_rfl); (focus (simp [go_sem]; exact ⟨rfl, rfl⟩)); try dsimp only [thn, inBlk])
      | fail)
    refine AWP.callE (by simp [go_sem]; exact ⟨rfl, rfl, rfl, rfl, rfl⟩) (by kernel_rfl) ?_
    refine hn.mono ?_
    rintro v h2 hv
    split at hv
    · rename_i r2 b2 hnx
      obtain ⟨rfl, k2⟩ := hv
      obtain ⟨rfl, hf⟩ := fi.fin hnx
      have k3 := k2.push (.row [.int .i64 0, .slice none 0 0] 36 2 true false)
      have c3 := k3.obj
      obtain ⟨a3, cap3, k6⟩ := rdr_iff.1 k3.tail
      have c6 := k6.obj
      by_cases hb2 : b2 = 0
      · subst hb2
        rw [if_pos rfl] at hf
        rw [hf]
        refine awpL_restE (by simp [go_sem, c3]; exact ⟨rfl, rfl⟩) ?_; try dsimp only [thn, inBlk]
        (repeat' first
          | refine AWP.seq ?_
          | refine AWP.block ?_
          | (refine AWP.skip ?_; try dsimp only [thn, inBlk])
          | (refine AWP.exit ?_; try simp only [thn, inBlk, if_true])
          | (refine AWP.ret ?_; try dsimp only [thn, inBlk])
          | (refine AWP.condT ?_ ?_; (focus (simp [go_sem, c6]; done)))
          | (refine AWP.condF ?_ ?_; (focus (simp [go_sem, c6]; done)))
          | (apply AWP.rE; (focus (simp [go_sem, c6]; exact ⟨rfl, rfl⟩)); try dsimp only [thn, inBlk])
          | (apply AWP.dE hmix [.n 0 [4], .n 1 [0], .n 2 [42], .n 3 [43], .n 4 [44], .n 5 [41], .n 6 [45]]; (focus kernel_rfl); (focus (simp [go_sem, c6]; exact ⟨rfl, rfl⟩)); try dsimp only [thn, inBlk])
          | fail)
        simp [bodyQ, thn, inBlk, resA, resV, go_sem]
        exact ⟨_, _, ⟨rfl, rfl⟩, k3.tail⟩
      · have hb2' : (b2 != 0) = true := by simpa using hb2
        rw [if_neg hb2] at hf
        rw [hf]
        have k7 := k6.set (row (.slice none 0 0) b2)
        have c7 := k7.obj
        refine awpL_restE (by simp [go_sem, c3]; exact ⟨rfl, rfl⟩) ?_; try dsimp only [thn, inBlk]
        (repeat' first
          | refine AWP.seq ?_
          | refine AWP.block ?_
          | (refine AWP.skip ?_; try dsimp only [thn, inBlk])
          | (refine AWP.exit ?_; try simp only [thn, inBlk, if_true])
          | (refine AWP.ret ?_; try dsimp only [thn, inBlk])
          | (refine AWP.condT ?_ ?_; (focus (simp [go_sem, c6, c7, hb2']; done)))
          | (refine AWP.condF ?_ ?_; (focus (simp [go_sem, c6, c7, hb2']; done)))
          | (apply AWP.rE; (focus (simp [go_sem, c6, c7, hb2']; exact ⟨rfl, rfl⟩)); try dsimp only [thn, inBlk])
          | (apply AWP.dE hmix [.n 0 [4], .n 1 [0], .n 2 [42], .n 3 [43], .n 4 [44], .n 5 [41], .n 6 [45]]; (focus kernel_rfl); (focus (simp [go_sem, c6, c7, hb2']; exact ⟨rfl, rfl⟩)); try dsimp only [thn, inBlk])
          | fail)
        simp [bodyQ, thn, inBlk, resA, resV, go_sem, c7]
        have k8 := ((k7.d2.d1).brecs_nil (pre := pre) 36 2 5)
        exact ⟨_, _, ⟨rfl, rfl⟩, Own.b1 (k8.tail.nil 5 1 |> fun q => (rdr_iff.2 ⟨none, 0, q.b1⟩).brecs_nil (pre := pre) 36 2 5)⟩
    · rename_i f r2 b2 hnx
      obtain ⟨a2, c2, rfl, k2⟩ := hv
      have k3 := k2.push (.row [.int .i64 0, .slice none 0 0] 36 2 true false)
      have c3 := k3.obj
      have k4 := k2.push (.row [.int .i64 f.1, .slice a2 f.2.length c2] 36 2 true false)
      have c4 := k4.obj
      obtain ⟨a5, cap5, h5, e5, k5⟩ := k4.b3.b3.b1.brecs_app (P := Try.prog) (t := 27) (xt := 27) (fs := fs1) (x := f.1) (i := h2.next + 1) Try.underlying27 tsz36 tby36 tz36 nI27 (by omega) rfl rfl rfl rfl (by have := fi.size; omega)
      simp only [pre, List.cons_append, List.nil_append] at e5
      refine awpL_restE (by simp [go_sem, c3]; exact ⟨rfl, rfl⟩) ?_; try dsimp only [thn, inBlk]
      (repeat' first
        | refine AWP.seq ?_
        | refine AWP.block ?_
        | (refine AWP.skip ?_; try dsimp only [thn, inBlk])
        | (refine AWP.exit ?_; try simp only [thn, inBlk, if_true])
        | (refine AWP.ret ?_; try dsimp only [thn, inBlk])
        | (refine AWP.condT ?_ ?_; (focus (simp [go_sem, c4, e5]; done)))
        | (refine AWP.condF ?_ ?_; (focus (simp [go_sem, c4, e5]; done)))
        | (apply AWP.rE; (focus (simp [go_sem, c4, e5]; exact ⟨rfl, rfl⟩)); try dsimp only [thn, inBlk])
        | (apply AWP.dE hmix [.n 0 [4], .n 1 [0], .n 2 [42], .n 3 [43], .n 4 [44], .n 5 [41], .n 6 [45]]; (focus kernel_rfl); (focus (simp [go_sem, c4, e5]; exact ⟨rfl, rfl⟩)); try dsimp only [thn, inBlk])
        | fail)
      refine ⟨r2.length, nxt_len hnx, a5, cap5, fs1 ++ [f], r2, b2, rfl, ?_, fi.step hnx, ?_⟩
      · simp [go_sem]
      · have := k5.b2.d2
        rw [List.length_append]; exact this

theorem feed_calls {O : Old} {h : AHeap} {R : List Chunk} {i : Nat} {r xs : List UInt8} {b : Int} {xv : Value} (k : Own O h (rdr i r b :: R)) (hx : ∀ h, Own O h R → Bytes h xv xs) (hi : b ≠ 0 → r = []) (hm : r.length + xs.length ≤ 1000000000) :
    ACalls Try.prog 9 #[ptr i, xv] h fun v h' => ∃ a cap, v = .tuple #[.slice a (feedR r b xs).1.length cap, .int .i64 (feedR r b xs).2.2] ∧ Own O h' (rdr i (feedR r b xs).2.1 (feedR r b xs).2.2 :: frs (.slice a (feedR r b xs).1.length cap) (feedR r b xs).1 :: R) :=
  feed_calls' k hx hi fun _ => hm
end L17
