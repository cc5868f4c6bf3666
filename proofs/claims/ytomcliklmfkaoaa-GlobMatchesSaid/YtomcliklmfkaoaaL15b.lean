import Derived.Test.YtomcliklmfkaoaaL15a
open Go Ab Go.Proofs
namespace L15
set_option autoImplicit false
set_option linter.unusedSimpArgs false
set_option linter.unusedVariables false

/-! ### Texts -/
section
variable {c x d : UInt8} {t l : List UInt8}
theorem sidx0 (hl : l = c :: t) : indexP Try.prog 9 (.string ⟨l.toArray⟩) (.int .i64 0) = some (.int .u8 c.toNat) := by
  subst hl; exact str_index (l := c :: t) (j := 0) Try.underlying9 (by simp)
theorem sidx1 (hl : l = c :: x :: t) : indexP Try.prog 9 (.string ⟨l.toArray⟩) (.int .i64 1) = some (.int .u8 x.toNat) := by
  subst hl; exact str_index (l := c :: x :: t) (j := 1) Try.underlying9 (by simp)
theorem sidx2 (hl : l = c :: x :: d :: t) : indexP Try.prog 9 (.string ⟨l.toArray⟩) (.int .i64 2) = some (.int .u8 d.toNat) := by
  subst hl; exact str_index (l := c :: x :: d :: t) (j := 2) Try.underlying9 (by simp)
theorem sdrop1 (hl : l = c :: t) (h : AHeap) : sliceR Try.prog h 9 (.string ⟨l.toArray⟩) (some (.int .i64 1)) none none = some (.string ⟨t.toArray⟩) := by
  subst hl
  have := str_slice (P := Try.prog) (h := h) (t := 9) Try.underlying9 (l := c :: t) (lo := 1) (hi := (c :: t).length) (a := some (.int .i64 ((1 : Nat) : Int))) (u := none) (by simp) (Nat.le_refl _) (.inr ⟨_, rfl⟩) (.inl ⟨rfl, rfl⟩)
  simpa using this
theorem sdrop3 (hl : l = c :: x :: d :: t) (h : AHeap) : sliceR Try.prog h 9 (.string ⟨l.toArray⟩) (some (.int .i64 3)) none none = some (.string ⟨t.toArray⟩) := by
  subst hl
  have := str_slice (P := Try.prog) (h := h) (t := 9) Try.underlying9 (l := c :: x :: d :: t) (lo := 3) (hi := (c :: x :: d :: t).length) (a := some (.int .i64 ((3 : Nat) : Int))) (u := none) (by simp) (Nat.le_refl _) (.inr ⟨_, rfl⟩) (.inl ⟨rfl, rfl⟩)
  simpa using this
theorem sne (hl : l = c :: t) : (l == []) = false := by subst hl; rfl
end

/-! ### Sets -/
inductive Stp
  | stop
  | bad
  | one (a b : UInt8) (r : List UInt8)
def stp : List UInt8 → Stp
  | [] => .stop
  | c :: t => if c = 93 then .stop else if c = 45 then .bad else match t with
    | x :: d :: t3 => if x = 45 then (if d = 93 ∨ d = 45 ∨ d < c then .bad else .one c d t3) else .one c c (x :: d :: t3)
    | [x] => if x = 45 then .bad else .one c c [x]
    | [] => .one c c []
theorem stp_len {s r : List UInt8} {a b : UInt8} (h : stp s = .one a b r) : r.length < s.length := by
  unfold stp at h
  split at h
  · cases h
  · repeat' split at h
    all_goals first | (cases h; done) | (cases h; simp; try omega)
def clsGo (s : List UInt8) : Option (List (UInt8 × UInt8) × List UInt8) :=
  match h : stp s with
  | .stop => some ([], s)
  | .bad => none
  | .one a b r => (clsGo r).map fun q => ((a, b) :: q.1, q.2)
termination_by s.length
decreasing_by exact stp_len h
theorem clsGo_stop {s : List UInt8} (h : stp s = .stop) : clsGo s = some ([], s) := by
  rw [clsGo]; split <;> rename_i h' <;> rw [h] at h' <;> first | rfl | cases h'
theorem clsGo_bad {s : List UInt8} (h : stp s = .bad) : clsGo s = none := by
  rw [clsGo]; split <;> rename_i h' <;> rw [h] at h' <;> first | rfl | cases h'
theorem clsGo_one {s r : List UInt8} {a b : UInt8} (h : stp s = .one a b r) : clsGo s = (clsGo r).map fun q => ((a, b) :: q.1, q.2) := by
  rw [clsGo]; split <;> rename_i h' <;> rw [h] at h' <;> first | (cases h'; rfl) | cases h'
def bang : List UInt8 → Bool × List UInt8
  | c :: t => if c = 33 then (true, t) else (false, c :: t)
  | [] => (false, [])
/-- A set, behind its [; what is behind it. -/
def cls (s : List UInt8) : Option (Pt × List UInt8) :=
  match clsGo (bang s).2 with
  | none => none
  | some (rs, r) => if r = [] ∨ rs = [] then none else some (⟨2, rs, (bang s).1⟩, r.tail)

theorem stp_one {l r : List UInt8} {a b : UInt8} (h : stp l = .one a b r) : a ≠ 93 ∧ a ≠ 45 ∧ ((l = a :: r ∧ b = a ∧ (r = [] ∨ ∃ x t, r = x :: t ∧ x ≠ 45)) ∨ (l = a :: 45 :: b :: r ∧ b ≠ 93 ∧ b ≠ 45 ∧ ¬ b < a)) := by
  unfold stp at h
  split at h
  · cases h
  · rename_i c t
    split at h
    · cases h
    · rename_i h1
      split at h
      · cases h
      · rename_i h2
        split at h
        · rename_i x d t3
          split at h
          · rename_i h3
            split at h
            · cases h
            · rename_i h4
              cases h
              simp only [not_or] at h4
              exact ⟨h1, h2, .inr ⟨by rw [h3], h4.1, h4.2.1, h4.2.2⟩⟩
          · rename_i h3
            cases h
            exact ⟨h1, h2, .inl ⟨rfl, rfl, .inr ⟨x, _, rfl, h3⟩⟩⟩
        · rename_i x
          split at h
          · cases h
          · rename_i h3
            cases h
            exact ⟨h1, h2, .inl ⟨rfl, rfl, .inr ⟨x, _, rfl, h3⟩⟩⟩
        · cases h
          exact ⟨h1, h2, .inl ⟨rfl, rfl, .inl rfl⟩⟩
theorem stp_bad {l : List UInt8} (h : stp l = .bad) : ∃ c t, l = c :: t ∧ c ≠ 93 ∧ (c = 45 ∨ (c ≠ 45 ∧ (t = [45] ∨ ∃ d t3, t = 45 :: d :: t3 ∧ (d = 93 ∨ (d ≠ 93 ∧ (d = 45 ∨ (d ≠ 45 ∧ d < c))))))) := by
  unfold stp at h
  split at h
  · cases h
  · rename_i c t
    refine ⟨c, t, rfl, ?_⟩
    split at h
    · cases h
    · rename_i h1
      refine ⟨h1, ?_⟩
      split at h
      · rename_i h2; exact .inl h2
      · rename_i h2
        refine .inr ⟨h2, ?_⟩
        split at h
        · rename_i x d t3
          split at h
          · rename_i h3
            split at h
            · rename_i h4
              refine .inr ⟨d, t3, by rw [h3], ?_⟩
              rcases h4 with h4 | h4 | h4
              · exact .inl h4
              · by_cases h5 : d = 93
                · exact .inl h5
                · exact .inr ⟨h5, .inl h4⟩
              · by_cases h5 : d = 93
                · exact .inl h5
                · by_cases h6 : d = 45
                  · exact .inr ⟨h5, .inl h6⟩
                  · exact .inr ⟨h5, .inr ⟨h6, h4⟩⟩
            · cases h
          · cases h
        · rename_i x
          split at h
          · rename_i h3; exact .inl (by rw [h3])
          · cases h
        · cases h


set_option maxHeartbeats 8000000 in
theorem class_calls {O : Old} {h : AHeap} {R : List Chunk} {s : List UInt8} (k : Own O h R) (hl : s.length ≤ 1000) :
    ACalls Try.prog 19 #[.string ⟨s.toArray⟩] h fun v h' => match cls s with
      | none => ∃ a n c ng st, v = .tuple #[.agg #[.int .i64 2, .slice a n c, .bool ng], .string st, .bool false] ∧ Own O h' R
      | some (p, r) => ∃ w, v = .tuple #[ptv p w, .string ⟨r.toArray⟩, .bool true] ∧ Own O h' (rng w p.rs :: R) := by
  refine ACalls.of_awp (args := [.string ⟨s.toArray⟩]) (n := 89) Try.func19 rfl rfl (by show 1 ≤ 89; omega) ?_
  have k1 := k.push (.row [.int .i64 2, .slice none 0 0, .bool false] 43 3 true false)
  have c1 := k1.obj
  refine AWP.seq ?_
  (apply AWP.rE; (focus (simp [go_sem]; exact ⟨rfl, rfl⟩)); try dsimp only [thn, inBlk])
  refine AWP.seq ?_
  (apply AWP.rE; (focus (simp [go_sem]; exact ⟨rfl, rfl⟩)); try dsimp only [thn, inBlk])
  refine AWP.cut [0, 2] (fun s' h' => s' = ⟨89, [(0, .string ⟨(bang s).2.toArray⟩), (2, .pointer (some ⟨h.next, 0, none⟩))]⟩ ∧ Own O h' (cell h.next (.row [.int .i64 2, .slice none 0 0, .bool (bang s).1] 43 3 true false) :: R)) ?_ ?_
  · match hs : s with
    | [] =>
      (repeat' first
        | refine AWP.seq ?_
        | refine AWP.block ?_
        | (refine AWP.skip ?_; try dsimp only [thn, inBlk])
        | (refine AWP.exit ?_; try simp only [thn, inBlk, if_true, reduceIte, Nat.reduceEqDiff])
        | (refine AWP.ret ?_; try dsimp only [thn, inBlk])
        | (refine AWP.condT ?_ ?_; (focus (simp [go_sem]; done)))
        | (refine AWP.condF ?_ ?_; (focus (simp [go_sem]; done)))
        | (apply AWP.rE; (focus (simp [go_sem]; exact ⟨rfl, rfl⟩)); try dsimp only [thn, inBlk])
        | (apply AWP.dE hmix [.n 0 [0], .n 1 [24], .n 2 [0], .n 3 [26], .n 4 [25, 27], .n 5 [], .w 6 [5, 28] []]; (focus kernel_rfl); (focus (simp [go_sem]; exact ⟨rfl, rfl⟩)); try dsimp only [thn, inBlk])
        | (apply AWP.dE hmix [.n 0 [0], .n 1 [45], .n 2 [46], .n 3 [47], .n 4 [0, 48], .n 5 [49, 48], .n 6 [50, 48], .n 7 [48, 51], .n 8 [52], .n 9 [0, 53], .n 10 [54, 53], .n 11 [55, 53], .n 12 [53, 56], .n 13 [57], .n 14 [0, 58], .n 15 [59, 58], .n 16 [0, 58], .n 17 [61, 58], .n 18 [60, 62, 58], .n 19 [58, 63]]; (focus kernel_rfl); (focus (simp [go_sem]; exact ⟨rfl, rfl⟩)); try dsimp only [thn, inBlk])
        | fail)
      exact ⟨by simp [go_sem, bang], k1⟩
    | c :: t =>
      have i0 := sidx0 (l := c :: t) rfl
      have i1 := sdrop1 (l := c :: t) rfl
      have i2 := sne (l := c :: t) rfl
      generalize hL : c :: t = L at *
      by_cases hc : c = 33
      · have hb : bang L = (true, t) := by rw [← hL]; simp [bang, hc]
        have hc' : ((c.toNat : Int) == 33) = true := by rw [hc]; rfl
        have k2 := k.push (.row [.int .i64 2, .slice none 0 0, .bool true] 43 3 true false)
        rw [hb]
        (repeat' first
          | refine AWP.seq ?_
          | refine AWP.block ?_
          | (refine AWP.skip ?_; try dsimp only [thn, inBlk])
          | (refine AWP.exit ?_; try simp only [thn, inBlk, if_true, reduceIte, Nat.reduceEqDiff])
          | (refine AWP.ret ?_; try dsimp only [thn, inBlk])
          | (refine AWP.condT ?_ ?_; (focus (simp [go_sem, i0, i1, i2, hc']; done)))
          | (refine AWP.condF ?_ ?_; (focus (simp [go_sem, i0, i1, i2, hc']; done)))
          | (apply AWP.rE; (focus (simp [go_sem, i0, i1, i2, hc']; exact ⟨rfl, rfl⟩)); try dsimp only [thn, inBlk])
          | (apply AWP.dE hmix [.n 0 [0], .n 1 [24], .n 2 [0], .n 3 [26], .n 4 [25, 27], .n 5 [], .w 6 [5, 28] []]; (focus kernel_rfl); (focus (simp [go_sem, i0, i1, i2, hc']; exact ⟨rfl, rfl⟩)); try dsimp only [thn, inBlk])
          | (apply AWP.dE hmix [.n 0 [0], .n 1 [45], .n 2 [46], .n 3 [47], .n 4 [0, 48], .n 5 [49, 48], .n 6 [50, 48], .n 7 [48, 51], .n 8 [52], .n 9 [0, 53], .n 10 [54, 53], .n 11 [55, 53], .n 12 [53, 56], .n 13 [57], .n 14 [0, 58], .n 15 [59, 58], .n 16 [0, 58], .n 17 [61, 58], .n 18 [60, 62, 58], .n 19 [58, 63]]; (focus kernel_rfl); (focus (simp [go_sem, i0, i1, i2, hc']; exact ⟨rfl, rfl⟩)); try dsimp only [thn, inBlk])
          | fail)
        refine AWP.draw hmix [.n 0 [0], .n 1 [14], .n 2 [2], .w 3 [16] [1], .n 4 [15]] (by kernel_rfl) ?_
        refine awpD_writeR 3 (by rfl) (by rfl) (by simp [go_sem, i1, c1]; exact ⟨rfl, rfl, rfl⟩) (by rfl) (by rfl) (by simp [go_sem]) (by simp [go_sem, i1, c1]; exact ⟨rfl, rfl⟩) (by simp [still, go_sem, i1, c1]) ?_
        refine awpD_restR (by rfl) (by simp [go_sem]; exact ⟨rfl, rfl, rfl⟩) ?_; try dsimp only [thn, inBlk]
        exact ⟨by simp [go_sem], k2⟩
      · have hb : bang L = (false, L) := by rw [← hL]; simp [bang, hc]
        have hc' : ((c.toNat : Int) == 33) = false := neI (d := 33) hc
        rw [hb]
        (repeat' first
          | refine AWP.seq ?_
          | refine AWP.block ?_
          | (refine AWP.skip ?_; try dsimp only [thn, inBlk])
          | (refine AWP.exit ?_; try simp only [thn, inBlk, if_true, reduceIte, Nat.reduceEqDiff])
          | (refine AWP.ret ?_; try dsimp only [thn, inBlk])
          | (refine AWP.condT ?_ ?_; (focus (simp [go_sem, i0, i1, i2, hc']; done)))
          | (refine AWP.condF ?_ ?_; (focus (simp [go_sem, i0, i1, i2, hc']; done)))
          | (apply AWP.rE; (focus (simp [go_sem, i0, i1, i2, hc']; exact ⟨rfl, rfl⟩)); try dsimp only [thn, inBlk])
          | (apply AWP.dE hmix [.n 0 [0], .n 1 [24], .n 2 [0], .n 3 [26], .n 4 [25, 27], .n 5 [], .w 6 [5, 28] []]; (focus kernel_rfl); (focus (simp [go_sem, i0, i1, i2, hc']; exact ⟨rfl, rfl⟩)); try dsimp only [thn, inBlk])
          | (apply AWP.dE hmix [.n 0 [0], .n 1 [45], .n 2 [46], .n 3 [47], .n 4 [0, 48], .n 5 [49, 48], .n 6 [50, 48], .n 7 [48, 51], .n 8 [52], .n 9 [0, 53], .n 10 [54, 53], .n 11 [55, 53], .n 12 [53, 56], .n 13 [57], .n 14 [0, 58], .n 15 [59, 58], .n 16 [0, 58], .n 17 [61, 58], .n 18 [60, 62, 58], .n 19 [58, 63]]; (focus kernel_rfl); (focus (simp [go_sem, i0, i1, i2, hc']; exact ⟨rfl, rfl⟩)); try dsimp only [thn, inBlk])
          | fail)
        exact ⟨by simp [go_sem], k1⟩
  rintro s' h2 ⟨rfl, k2⟩
  have hlb : (bang s).2.length ≤ 1000 := by
    unfold bang; split
    · split
      · simp at hl ⊢; omega
      · exact hl
    · simp
  unfold cls
  generalize (bang s).2 = s1 at *
  generalize (bang s).1 = ng at *
  (repeat' first
    | refine AWP.seq ?_
    | refine AWP.block ?_
    | (refine AWP.skip ?_; try dsimp only [thn, inBlk])
    | (refine AWP.exit ?_; try simp only [thn, inBlk, if_true, reduceIte, Nat.reduceEqDiff])
    | (refine AWP.ret ?_; try dsimp only [thn, inBlk])
    | (refine AWP.condT ?_ ?_; (focus (simp [go_sem]; done)))
    | (refine AWP.condF ?_ ?_; (focus (simp [go_sem]; done)))
    | (apply AWP.rE; (focus (simp [go_sem]; exact ⟨rfl, rfl⟩)); try dsimp only [thn, inBlk])
    | (apply AWP.dE hmix [.n 0 [0], .n 1 [24], .n 2 [0], .n 3 [26], .n 4 [25, 27], .n 5 [], .w 6 [5, 28] []]; (focus kernel_rfl); (focus (simp [go_sem]; exact ⟨rfl, rfl⟩)); try dsimp only [thn, inBlk])
    | (apply AWP.dE hmix [.n 0 [0], .n 1 [45], .n 2 [46], .n 3 [47], .n 4 [0, 48], .n 5 [49, 48], .n 6 [50, 48], .n 7 [48, 51], .n 8 [52], .n 9 [0, 53], .n 10 [54, 53], .n 11 [55, 53], .n 12 [53, 56], .n 13 [57], .n 14 [0, 58], .n 15 [59, 58], .n 16 [0, 58], .n 17 [61, 58], .n 18 [60, 62, 58], .n 19 [58, 63]]; (focus kernel_rfl); (focus (simp [go_sem]; exact ⟨rfl, rfl⟩)); try dsimp only [thn, inBlk])
    | fail)
  refine AWP.loopR [0, 2] (fun m s' h' => ∃ (l : List UInt8) (acc : List (UInt8 × UInt8)) (w : Value), m = l.length ∧ clsGo s1 = (clsGo l).map (fun q => (acc ++ q.1, q.2)) ∧ l.length + acc.length ≤ 1000 ∧ s' = ⟨89, [(0, .string ⟨l.toArray⟩), (2, .pointer (some ⟨h.next, 0, none⟩))]⟩ ∧
    Own O h' (cell h.next (.row [.int .i64 2, w, .bool ng] 43 3 true false) :: rng w acc :: R)) ?_ ?_
  · exact ⟨_, s1, [], .slice none 0 0, rfl, by simp, by simpa using hlb, by simp [go_sem], (k2.nil 48 2).b1⟩
  rintro m s' h3 ⟨l, acc, w, rfl, hgo, hlen, rfl, kt⟩
  obtain ⟨wa, wc, rfl⟩ := Own.os_val kt.b1
  have c3 := kt.obj
  cases hst : stp l with
  | stop =>
    rw [clsGo_stop hst] at hgo
    simp only [Option.map_some, List.append_nil] at hgo
    rw [hgo]
    have hl2 : l = [] ∨ ∃ t, l = 93 :: t := by
      unfold stp at hst
      split at hst
      · exact .inl rfl
      · rename_i c t
        split at hst
        · rename_i hc; exact .inr ⟨t, by rw [hc]⟩
        · repeat' split at hst
          all_goals cases hst
    rcases hl2 with rfl | ⟨t, ht⟩
    · simp only [true_or, if_true]
      have k9 := kt.set (.row [.int .i64 2, .slice wa acc.length wc, .bool ng] 43 3 true false)
      (repeat' first
        | refine AWP.seq ?_
        | refine AWP.block ?_
        | (refine AWP.skip ?_; try dsimp only [thn, inBlk])
        | (refine AWP.exit ?_; try simp only [thn, inBlk, if_true, reduceIte, Nat.reduceEqDiff])
        | (refine AWP.ret ?_; try dsimp only [thn, inBlk])
        | (refine AWP.condT ?_ ?_; (focus (simp [go_sem, c3]; done)))
        | (refine AWP.condF ?_ ?_; (focus (simp [go_sem, c3]; done)))
        | (apply AWP.rE; (focus (simp [go_sem, c3]; exact ⟨rfl, rfl⟩)); try dsimp only [thn, inBlk])
        | (apply AWP.dE hmix [.n 0 [0], .n 1 [24], .n 2 [0], .n 3 [26], .n 4 [25, 27], .n 5 [], .w 6 [5, 28] []]; (focus kernel_rfl); (focus (simp [go_sem, c3]; exact ⟨rfl, rfl⟩)); try dsimp only [thn, inBlk])
        | (apply AWP.dE hmix [.n 0 [0], .n 1 [45], .n 2 [46], .n 3 [47], .n 4 [0, 48], .n 5 [49, 48], .n 6 [50, 48], .n 7 [48, 51], .n 8 [52], .n 9 [0, 53], .n 10 [54, 53], .n 11 [55, 53], .n 12 [53, 56], .n 13 [57], .n 14 [0, 58], .n 15 [59, 58], .n 16 [0, 58], .n 17 [61, 58], .n 18 [60, 62, 58], .n 19 [58, 63]]; (focus kernel_rfl); (focus (simp [go_sem, c3]; exact ⟨rfl, rfl⟩)); try dsimp only [thn, inBlk])
        | fail)
      simp [bodyQ, thn, inBlk, resA, resV, go_sem, c3]
      exact k9.tail.tail
    · have i0 := sidx0 ht
      have i1 := sdrop1 ht
      have i2 := sne ht
      have hc' : (((93 : UInt8).toNat : Int) == 93) = true := rfl
      by_cases ha : acc = []
      · subst ha
        simp only [or_true, if_true]
        have k9 := kt.set (.row [.int .i64 2, .slice wa 0 wc, .bool ng] 43 3 true false)
        (repeat' first
          | refine AWP.seq ?_
          | refine AWP.block ?_
          | (refine AWP.skip ?_; try dsimp only [thn, inBlk])
          | (refine AWP.exit ?_; try simp only [thn, inBlk, if_true, reduceIte, Nat.reduceEqDiff])
          | (refine AWP.ret ?_; try dsimp only [thn, inBlk])
          | (refine AWP.condT ?_ ?_; (focus (simp [go_sem, i0, i1, i2, hc', c3]; done)))
          | (refine AWP.condF ?_ ?_; (focus (simp [go_sem, i0, i1, i2, hc', c3]; done)))
          | (apply AWP.rE; (focus (simp [go_sem, i0, i1, i2, hc', c3]; exact ⟨rfl, rfl⟩)); try dsimp only [thn, inBlk])
          | (apply AWP.dE hmix [.n 0 [0], .n 1 [24], .n 2 [0], .n 3 [26], .n 4 [25, 27], .n 5 [], .w 6 [5, 28] []]; (focus kernel_rfl); (focus (simp [go_sem, i0, i1, i2, hc', c3]; exact ⟨rfl, rfl⟩)); try dsimp only [thn, inBlk])
          | (apply AWP.dE hmix [.n 0 [0], .n 1 [45], .n 2 [46], .n 3 [47], .n 4 [0, 48], .n 5 [49, 48], .n 6 [50, 48], .n 7 [48, 51], .n 8 [52], .n 9 [0, 53], .n 10 [54, 53], .n 11 [55, 53], .n 12 [53, 56], .n 13 [57], .n 14 [0, 58], .n 15 [59, 58], .n 16 [0, 58], .n 17 [61, 58], .n 18 [60, 62, 58], .n 19 [58, 63]]; (focus kernel_rfl); (focus (simp [go_sem, i0, i1, i2, hc', c3]; exact ⟨rfl, rfl⟩)); try dsimp only [thn, inBlk])
          | fail)
        simp [bodyQ, thn, inBlk, resA, resV, go_sem, c3]
        exact k9.tail.tail
      · have hr : ¬ (l = [] ∨ acc = []) := by rw [ht]; simp [ha]
        have ha' : ¬ acc.length = 0 := by simpa using ha
        have ha2 : ((acc.length : Int) == 0) = false := by simpa using ha
        simp only [if_neg hr]
        have k9 := kt.set (.row [.int .i64 2, .slice wa acc.length wc, .bool ng] 43 3 true false)
        (repeat' first
          | refine AWP.seq ?_
          | refine AWP.block ?_
          | (refine AWP.skip ?_; try dsimp only [thn, inBlk])
          | (refine AWP.exit ?_; try simp only [thn, inBlk, if_true, reduceIte, Nat.reduceEqDiff])
          | (refine AWP.ret ?_; try dsimp only [thn, inBlk])
          | (refine AWP.condT ?_ ?_; (focus (simp [go_sem, i0, i1, i2, hc', c3, ha, ha', ha2]; done)))
          | (refine AWP.condF ?_ ?_; (focus (simp [go_sem, i0, i1, i2, hc', c3, ha, ha', ha2]; done)))
          | (apply AWP.rE; (focus (simp [go_sem, i0, i1, i2, hc', c3, ha, ha', ha2]; exact ⟨rfl, rfl⟩)); try dsimp only [thn, inBlk])
          | (apply AWP.dE hmix [.n 0 [0], .n 1 [24], .n 2 [0], .n 3 [26], .n 4 [25, 27], .n 5 [], .w 6 [5, 28] []]; (focus kernel_rfl); (focus (simp [go_sem, i0, i1, i2, hc', c3, ha, ha', ha2]; exact ⟨rfl, rfl⟩)); try dsimp only [thn, inBlk])
          | (apply AWP.dE hmix [.n 0 [0], .n 1 [45], .n 2 [46], .n 3 [47], .n 4 [0, 48], .n 5 [49, 48], .n 6 [50, 48], .n 7 [48, 51], .n 8 [52], .n 9 [0, 53], .n 10 [54, 53], .n 11 [55, 53], .n 12 [53, 56], .n 13 [57], .n 14 [0, 58], .n 15 [59, 58], .n 16 [0, 58], .n 17 [61, 58], .n 18 [60, 62, 58], .n 19 [58, 63]]; (focus kernel_rfl); (focus (simp [go_sem, i0, i1, i2, hc', c3, ha, ha', ha2]; exact ⟨rfl, rfl⟩)); try dsimp only [thn, inBlk])
          | fail)
        refine AWP.draw hmix [.n 0 [2], .n 1 [0], .n 2 [87], .w 3 [2, 86] [2], .n 4 [88], .n 5 []] (by kernel_rfl) ?_
        refine awpD_writeR 3 (by rfl) (by rfl) (by simp [go_sem, i1, c3]; exact ⟨rfl, rfl, rfl⟩) (by rfl) (by rfl) (by simp [go_sem]) (by simp [go_sem, i1, c3]; exact ⟨rfl, rfl⟩) (by simp [still, go_sem, i1, c3]) ?_
        refine awpD_restR (by rfl) (by simp [go_sem]; exact ⟨rfl, rfl, rfl⟩) ?_; try dsimp only [thn, inBlk]
        (repeat' first
          | refine AWP.seq ?_
          | refine AWP.block ?_
          | (refine AWP.skip ?_; try dsimp only [thn, inBlk])
          | (refine AWP.exit ?_; try simp only [thn, inBlk, if_true, reduceIte, Nat.reduceEqDiff])
          | (refine AWP.ret ?_; try dsimp only [thn, inBlk])
          | (refine AWP.condT ?_ ?_; (focus (simp [go_sem]; done)))
          | (refine AWP.condF ?_ ?_; (focus (simp [go_sem]; done)))
          | (apply AWP.rE; (focus (simp [go_sem]; exact ⟨rfl, rfl⟩)); try dsimp only [thn, inBlk])
          | (apply AWP.dE hmix [.n 0 [0], .n 1 [24], .n 2 [0], .n 3 [26], .n 4 [25, 27], .n 5 [], .w 6 [5, 28] []]; (focus kernel_rfl); (focus (simp [go_sem]; exact ⟨rfl, rfl⟩)); try dsimp only [thn, inBlk])
          | (apply AWP.dE hmix [.n 0 [0], .n 1 [45], .n 2 [46], .n 3 [47], .n 4 [0, 48], .n 5 [49, 48], .n 6 [50, 48], .n 7 [48, 51], .n 8 [52], .n 9 [0, 53], .n 10 [54, 53], .n 11 [55, 53], .n 12 [53, 56], .n 13 [57], .n 14 [0, 58], .n 15 [59, 58], .n 16 [0, 58], .n 17 [61, 58], .n 18 [60, 62, 58], .n 19 [58, 63]]; (focus kernel_rfl); (focus (simp [go_sem]; exact ⟨rfl, rfl⟩)); try dsimp only [thn, inBlk])
          | fail)
        simp [bodyQ, thn, inBlk, resA, resV, go_sem]
        rw [ht]
        exact ⟨.slice wa acc.length wc, ⟨rfl, rfl⟩, k9.tail⟩
  | bad =>
    rw [clsGo_bad hst] at hgo
    simp only [Option.map_none] at hgo
    rw [hgo]
    obtain ⟨c, t, hlt, h93, hb⟩ := stp_bad hst
    have i0 := sidx0 hlt
    have i2 := sne hlt
    have hc1 : ((c.toNat : Int) == 93) = false := neI (d := 93) h93
    have hc0 : ((c.toNat : Int) != 93) = true := by simp only [bne, hc1]; rfl
    have k9 := (kt.push (.row [.int .u8 c.toNat, .int .u8 c.toNat] 48 2 true false)).b1.set (.row [.int .i64 2, .slice wa acc.length wc, .bool ng] 43 3 true false)
    have c4 := (kt.push (.row [.int .u8 c.toNat, .int .u8 c.toNat] 48 2 true false)).b1.obj
    rcases hb with h45 | ⟨h45, hb⟩
    · have hc2 : ((c.toNat : Int) == 45) = true := by rw [h45]; rfl
      (repeat' first
        | refine AWP.seq ?_
        | refine AWP.block ?_
        | (refine AWP.skip ?_; try dsimp only [thn, inBlk])
        | (refine AWP.exit ?_; try simp only [thn, inBlk, if_true, reduceIte, Nat.reduceEqDiff])
        | (refine AWP.ret ?_; try dsimp only [thn, inBlk])
        | (refine AWP.condT ?_ ?_; (focus (simp [go_sem, i0, i2, hc0, hc1, hc2, c4]; done)))
        | (refine AWP.condF ?_ ?_; (focus (simp [go_sem, i0, i2, hc0, hc1, hc2, c4]; done)))
        | (apply AWP.rE; (focus (simp [go_sem, i0, i2, hc0, hc1, hc2, c4]; exact ⟨rfl, rfl⟩)); try dsimp only [thn, inBlk])
        | (apply AWP.dE hmix [.n 0 [0], .n 1 [24], .n 2 [0], .n 3 [26], .n 4 [25, 27], .n 5 [], .w 6 [5, 28] []]; (focus kernel_rfl); (focus (simp [go_sem, i0, i2, hc0, hc1, hc2, c4]; exact ⟨rfl, rfl⟩)); try dsimp only [thn, inBlk])
        | (apply AWP.dE hmix [.n 0 [0], .n 1 [45], .n 2 [46], .n 3 [47], .n 4 [0, 48], .n 5 [49, 48], .n 6 [50, 48], .n 7 [48, 51], .n 8 [52], .n 9 [0, 53], .n 10 [54, 53], .n 11 [55, 53], .n 12 [53, 56], .n 13 [57], .n 14 [0, 58], .n 15 [59, 58], .n 16 [0, 58], .n 17 [61, 58], .n 18 [60, 62, 58], .n 19 [58, 63]]; (focus kernel_rfl); (focus (simp [go_sem, i0, i2, hc0, hc1, hc2, c4]; exact ⟨rfl, rfl⟩)); try dsimp only [thn, inBlk])
        | fail)
      simp [bodyQ, thn, inBlk, resA, resV, go_sem, c4]
      exact k9.tail.tail.tail
    have hc2 : ((c.toNat : Int) == 45) = false := neI (d := 45) h45
    rcases hb with rfl | ⟨d, t3, rfl, hd⟩
    · have i3 := sidx1 hlt
      have hl2 : l.length = 2 := by rw [hlt]; rfl
      have hx : (((45 : UInt8).toNat : Int) == 45) = true := rfl
      (repeat' first
        | refine AWP.seq ?_
        | refine AWP.block ?_
        | (refine AWP.skip ?_; try dsimp only [thn, inBlk])
        | (refine AWP.exit ?_; try simp only [thn, inBlk, if_true, reduceIte, Nat.reduceEqDiff])
        | (refine AWP.ret ?_; try dsimp only [thn, inBlk])
        | (refine AWP.condT ?_ ?_; (focus (simp [go_sem, i0, i2, i3, hl2, hc0, hc1, hc2, hx, c4]; done)))
        | (refine AWP.condF ?_ ?_; (focus (simp [go_sem, i0, i2, i3, hl2, hc0, hc1, hc2, hx, c4]; done)))
        | (apply AWP.rE; (focus (simp [go_sem, i0, i2, i3, hl2, hc0, hc1, hc2, hx, c4]; exact ⟨rfl, rfl⟩)); try dsimp only [thn, inBlk])
        | (apply AWP.dE hmix [.n 0 [0], .n 1 [24], .n 2 [0], .n 3 [26], .n 4 [25, 27], .n 5 [], .w 6 [5, 28] []]; (focus kernel_rfl); (focus (simp [go_sem, i0, i2, i3, hl2, hc0, hc1, hc2, hx, c4]; exact ⟨rfl, rfl⟩)); try dsimp only [thn, inBlk])
        | (apply AWP.dE hmix [.n 0 [0], .n 1 [45], .n 2 [46], .n 3 [47], .n 4 [0, 48], .n 5 [49, 48], .n 6 [50, 48], .n 7 [48, 51], .n 8 [52], .n 9 [0, 53], .n 10 [54, 53], .n 11 [55, 53], .n 12 [53, 56], .n 13 [57], .n 14 [0, 58], .n 15 [59, 58], .n 16 [0, 58], .n 17 [61, 58], .n 18 [60, 62, 58], .n 19 [58, 63]]; (focus kernel_rfl); (focus (simp [go_sem, i0, i2, i3, hl2, hc0, hc1, hc2, hx, c4]; exact ⟨rfl, rfl⟩)); try dsimp only [thn, inBlk])
        | fail)
      simp [bodyQ, thn, inBlk, resA, resV, go_sem, c4]
      exact k9.tail.tail.tail
    · have i3 := sidx1 hlt
      have i4 := sidx2 hlt
      have hl2 : (1 : Int) < l.length := by rw [hlt]; simp; omega
      have hl3 : ¬ (l.length : Int) < 3 := by rw [hlt]; simp; omega
      have hl4 : 1 < l.length := by omega
      have hl5 : ¬ l.length < 3 := by omega
      have hx : (((45 : UInt8).toNat : Int) == 45) = true := rfl
      rcases hd with h1 | ⟨h1, h2 | ⟨h2, h3⟩⟩
      · have g1 : ((d.toNat : Int) == 93) = true := by rw [h1]; rfl
        (repeat' first
          | refine AWP.seq ?_
          | refine AWP.block ?_
          | (refine AWP.skip ?_; try dsimp only [thn, inBlk])
          | (refine AWP.exit ?_; try simp only [thn, inBlk, if_true, reduceIte, Nat.reduceEqDiff])
          | (refine AWP.ret ?_; try dsimp only [thn, inBlk])
          | (refine AWP.condT ?_ ?_; (focus (simp [go_sem, i0, i2, i3, i4, hl2, hl3, hl4, hl5, hc0, hc1, hc2, hx, g1, c4]; done)))
          | (refine AWP.condF ?_ ?_; (focus (simp [go_sem, i0, i2, i3, i4, hl2, hl3, hl4, hl5, hc0, hc1, hc2, hx, g1, c4]; done)))
          | (apply AWP.rE; (focus (simp [go_sem, i0, i2, i3, i4, hl2, hl3, hl4, hl5, hc0, hc1, hc2, hx, g1, c4]; exact ⟨rfl, rfl⟩)); try dsimp only [thn, inBlk])
          | (apply AWP.dE hmix [.n 0 [0], .n 1 [24], .n 2 [0], .n 3 [26], .n 4 [25, 27], .n 5 [], .w 6 [5, 28] []]; (focus kernel_rfl); (focus (simp [go_sem, i0, i2, i3, i4, hl2, hl3, hl4, hl5, hc0, hc1, hc2, hx, g1, c4]; exact ⟨rfl, rfl⟩)); try dsimp only [thn, inBlk])
          | (apply AWP.dE hmix [.n 0 [0], .n 1 [45], .n 2 [46], .n 3 [47], .n 4 [0, 48], .n 5 [49, 48], .n 6 [50, 48], .n 7 [48, 51], .n 8 [52], .n 9 [0, 53], .n 10 [54, 53], .n 11 [55, 53], .n 12 [53, 56], .n 13 [57], .n 14 [0, 58], .n 15 [59, 58], .n 16 [0, 58], .n 17 [61, 58], .n 18 [60, 62, 58], .n 19 [58, 63]]; (focus kernel_rfl); (focus (simp [go_sem, i0, i2, i3, i4, hl2, hl3, hl4, hl5, hc0, hc1, hc2, hx, g1, c4]; exact ⟨rfl, rfl⟩)); try dsimp only [thn, inBlk])
          | fail)
        simp [bodyQ, thn, inBlk, resA, resV, go_sem, c4]
        exact k9.tail.tail.tail
      · have g1 : ((d.toNat : Int) == 93) = false := neI (d := 93) h1
        have g2 : ((d.toNat : Int) == 45) = true := by rw [h2]; rfl
        (repeat' first
          | refine AWP.seq ?_
          | refine AWP.block ?_
          | (refine AWP.skip ?_; try dsimp only [thn, inBlk])
          | (refine AWP.exit ?_; try simp only [thn, inBlk, if_true, reduceIte, Nat.reduceEqDiff])
          | (refine AWP.ret ?_; try dsimp only [thn, inBlk])
          | (refine AWP.condT ?_ ?_; (focus (simp [go_sem, i0, i2, i3, i4, hl2, hl3, hl4, hl5, hc0, hc1, hc2, hx, g1, g2, c4]; done)))
          | (refine AWP.condF ?_ ?_; (focus (simp [go_sem, i0, i2, i3, i4, hl2, hl3, hl4, hl5, hc0, hc1, hc2, hx, g1, g2, c4]; done)))
          | (apply AWP.rE; (focus (simp [go_sem, i0, i2, i3, i4, hl2, hl3, hl4, hl5, hc0, hc1, hc2, hx, g1, g2, c4]; exact ⟨rfl, rfl⟩)); try dsimp only [thn, inBlk])
          | (apply AWP.dE hmix [.n 0 [0], .n 1 [24], .n 2 [0], .n 3 [26], .n 4 [25, 27], .n 5 [], .w 6 [5, 28] []]; (focus kernel_rfl); (focus (simp [go_sem, i0, i2, i3, i4, hl2, hl3, hl4, hl5, hc0, hc1, hc2, hx, g1, g2, c4]; exact ⟨rfl, rfl⟩)); try dsimp only [thn, inBlk])
          | (apply AWP.dE hmix [.n 0 [0], .n 1 [45], .n 2 [46], .n 3 [47], .n 4 [0, 48], .n 5 [49, 48], .n 6 [50, 48], .n 7 [48, 51], .n 8 [52], .n 9 [0, 53], .n 10 [54, 53], .n 11 [55, 53], .n 12 [53, 56], .n 13 [57], .n 14 [0, 58], .n 15 [59, 58], .n 16 [0, 58], .n 17 [61, 58], .n 18 [60, 62, 58], .n 19 [58, 63]]; (focus kernel_rfl); (focus (simp [go_sem, i0, i2, i3, i4, hl2, hl3, hl4, hl5, hc0, hc1, hc2, hx, g1, g2, c4]; exact ⟨rfl, rfl⟩)); try dsimp only [thn, inBlk])
          | fail)
        simp [bodyQ, thn, inBlk, resA, resV, go_sem, c4]
        exact k9.tail.tail.tail
      · have g1 : ((d.toNat : Int) == 93) = false := neI (d := 93) h1
        have g2 : ((d.toNat : Int) == 45) = false := neI (d := 45) h2
        have g3 : (d.toNat : Int) < c.toNat := by have := UInt8.lt_iff_toNat_lt.1 h3; omega
        have g4 : d.toNat < c.toNat := by omega
        (repeat' first
          | refine AWP.seq ?_
          | refine AWP.block ?_
          | (refine AWP.skip ?_; try dsimp only [thn, inBlk])
          | (refine AWP.exit ?_; try simp only [thn, inBlk, if_true, reduceIte, Nat.reduceEqDiff])
          | (refine AWP.ret ?_; try dsimp only [thn, inBlk])
          | (refine AWP.condT ?_ ?_; (focus (simp [go_sem, i0, i2, i3, i4, hl2, hl3, hl4, hl5, hc0, hc1, hc2, hx, g1, g2, g3, g4, c4]; done)))
          | (refine AWP.condF ?_ ?_; (focus (simp [go_sem, i0, i2, i3, i4, hl2, hl3, hl4, hl5, hc0, hc1, hc2, hx, g1, g2, g3, g4, c4]; done)))
          | (apply AWP.rE; (focus (simp [go_sem, i0, i2, i3, i4, hl2, hl3, hl4, hl5, hc0, hc1, hc2, hx, g1, g2, g3, g4, c4]; exact ⟨rfl, rfl⟩)); try dsimp only [thn, inBlk])
          | (apply AWP.dE hmix [.n 0 [0], .n 1 [24], .n 2 [0], .n 3 [26], .n 4 [25, 27], .n 5 [], .w 6 [5, 28] []]; (focus kernel_rfl); (focus (simp [go_sem, i0, i2, i3, i4, hl2, hl3, hl4, hl5, hc0, hc1, hc2, hx, g1, g2, g3, g4, c4]; exact ⟨rfl, rfl⟩)); try dsimp only [thn, inBlk])
          | (apply AWP.dE hmix [.n 0 [0], .n 1 [45], .n 2 [46], .n 3 [47], .n 4 [0, 48], .n 5 [49, 48], .n 6 [50, 48], .n 7 [48, 51], .n 8 [52], .n 9 [0, 53], .n 10 [54, 53], .n 11 [55, 53], .n 12 [53, 56], .n 13 [57], .n 14 [0, 58], .n 15 [59, 58], .n 16 [0, 58], .n 17 [61, 58], .n 18 [60, 62, 58], .n 19 [58, 63]]; (focus kernel_rfl); (focus (simp [go_sem, i0, i2, i3, i4, hl2, hl3, hl4, hl5, hc0, hc1, hc2, hx, g1, g2, g3, g4, c4]; exact ⟨rfl, rfl⟩)); try dsimp only [thn, inBlk])
          | fail)
        simp [bodyQ, thn, inBlk, resA, resV, go_sem, c4]
        exact k9.tail.tail.tail
  | one a b r =>
    rw [clsGo_one hst] at hgo
    obtain ⟨h93, h45, hb⟩ := stp_one hst
    have hc1 : ((a.toNat : Int) == 93) = false := neI (d := 93) h93
    have hc0 : ((a.toNat : Int) != 93) = true := by simp only [bne, hc1]; rfl
    have hc2 : ((a.toNat : Int) == 45) = false := neI (d := 45) h45
    rcases hb with ⟨hlt, rfl, hr⟩ | ⟨hlt, b93, b45, hba⟩
    · have i0 := sidx0 hlt
      have i1 := sdrop1 hlt
      have i2 := sne hlt
      have hll : l.length = r.length + 1 := by rw [hlt]; simp
      have RL : r.length < l.length := by omega
      have kk := kt.push (.row [.int .u8 b.toNat, .int .u8 b.toNat] 48 2 true false)
      have c4 := kk.b1.obj
      have c5 := kk.obj
      (repeat' first
        | refine AWP.seq ?_
        | refine AWP.block ?_
        | (refine AWP.skip ?_; try dsimp only [thn, inBlk])
        | (refine AWP.exit ?_; try simp only [thn, inBlk, if_true, reduceIte, Nat.reduceEqDiff])
        | (refine AWP.ret ?_; try dsimp only [thn, inBlk])
        | (refine AWP.condT ?_ ?_; (focus (simp [go_sem, i0, i2, hc0, hc1, hc2]; done)))
        | (refine AWP.condF ?_ ?_; (focus (simp [go_sem, i0, i2, hc0, hc1, hc2]; done)))
        | (apply AWP.rE; (focus (simp [go_sem, i0, i2, hc0, hc1, hc2]; exact ⟨rfl, rfl⟩)); try dsimp only [thn, inBlk])
        | (apply AWP.dE hmix [.n 0 [0], .n 1 [24], .n 2 [0], .n 3 [26], .n 4 [25, 27], .n 5 [], .w 6 [5, 28] []]; (focus kernel_rfl); (focus (simp [go_sem, i0, i2, hc0, hc1, hc2]; exact ⟨rfl, rfl⟩)); try dsimp only [thn, inBlk])
        | (apply AWP.dE hmix [.n 0 [0], .n 1 [45], .n 2 [46], .n 3 [47], .n 4 [0, 48], .n 5 [49, 48], .n 6 [50, 48], .n 7 [48, 51], .n 8 [52], .n 9 [0, 53], .n 10 [54, 53], .n 11 [55, 53], .n 12 [53, 56], .n 13 [57], .n 14 [0, 58], .n 15 [59, 58], .n 16 [0, 58], .n 17 [61, 58], .n 18 [60, 62, 58], .n 19 [58, 63]]; (focus kernel_rfl); (focus (simp [go_sem, i0, i2, hc0, hc1, hc2]; exact ⟨rfl, rfl⟩)); try dsimp only [thn, inBlk])
        | fail)
      rcases hr with rfl | ⟨x, t, rfl, hx⟩
      · have hl1 : l.length = 1 := by rw [hlt]; rfl
        obtain ⟨na, nc, h5, e5, k5⟩ := Own.appN (P := Try.prog) (t := 41) (xt := 41) (m := 1) (xs := [.int .u8 b.toNat, .int .u8 b.toNat]) (i := h3.next + 1) Try.underlying41 tsz48 tby48 tz48 nI41 (by omega) (by omega) rfl (kk.b2 : Own O (h3.push (.row [.int .u8 b.toNat, .int .u8 b.toNat] 48 2 true false)) (os 48 2 (.slice wa acc.length wc) acc.length (rg acc) :: _)) rfl rfl rfl (by omega)
        have c6 := k5.b2.obj
        have k6 := k5.b2.set (.row [.int .i64 2, .slice na (acc.length + 1) nc, .bool ng] 43 3 true false)
        (repeat' first
          | refine AWP.seq ?_
          | refine AWP.block ?_
          | (refine AWP.skip ?_; try dsimp only [thn, inBlk])
          | (refine AWP.exit ?_; try simp only [thn, inBlk, if_true, reduceIte, Nat.reduceEqDiff])
          | (refine AWP.ret ?_; try dsimp only [thn, inBlk])
          | (refine AWP.condT ?_ ?_; (focus (simp [go_sem, i0, i1, i2, hl1, c4, c5, e5, c6]; done)))
          | (refine AWP.condF ?_ ?_; (focus (simp [go_sem, i0, i1, i2, hl1, c4, c5, e5, c6]; done)))
          | (apply AWP.rE; (focus (simp [go_sem, i0, i1, i2, hl1, c4, c5, e5, c6]; exact ⟨rfl, rfl⟩)); try dsimp only [thn, inBlk])
          | (apply AWP.dE hmix [.n 0 [0], .n 1 [24], .n 2 [0], .n 3 [26], .n 4 [25, 27], .n 5 [], .w 6 [5, 28] []]; (focus kernel_rfl); (focus (simp [go_sem, i0, i1, i2, hl1, c4, c5, e5, c6]; exact ⟨rfl, rfl⟩)); try dsimp only [thn, inBlk])
          | (apply AWP.dE hmix [.n 0 [0], .n 1 [45], .n 2 [46], .n 3 [47], .n 4 [0, 48], .n 5 [49, 48], .n 6 [50, 48], .n 7 [48, 51], .n 8 [52], .n 9 [0, 53], .n 10 [54, 53], .n 11 [55, 53], .n 12 [53, 56], .n 13 [57], .n 14 [0, 58], .n 15 [59, 58], .n 16 [0, 58], .n 17 [61, 58], .n 18 [60, 62, 58], .n 19 [58, 63]]; (focus kernel_rfl); (focus (simp [go_sem, i0, i1, i2, hl1, c4, c5, e5, c6]; exact ⟨rfl, rfl⟩)); try dsimp only [thn, inBlk])
          | fail)
        refine ⟨([] : List UInt8).length, (show ([] : List UInt8).length < l.length from by first | omega | (simp; omega)), [], acc ++ [(b, b)], .slice na (acc.length + 1) nc, rfl, ?_, ?_, by simp [go_sem], ?_⟩
        · rw [hgo]; cases clsGo ([] : List UInt8) <;> simp
        · simp; omega
        · have e1 : rg (acc ++ [(b, b)]) = rg acc ++ [.int .u8 b.toNat, .int .u8 b.toNat] := by simp [rg, B]
          have e2 : (acc ++ [(b, b)]).length = acc.length + 1 := by simp
          unfold rng
          rw [e1, e2]
          exact k6.d2
      · have i3 := sidx1 hlt
        have hl2 : (1 : Int) < l.length := by rw [hlt]; simp; omega
        have hl4 : 1 < l.length := by omega
        have hx1 : ((x.toNat : Int) == 45) = false := neI (d := 45) hx
        generalize x :: t = r at *
        obtain ⟨na, nc, h5, e5, k5⟩ := Own.appN (P := Try.prog) (t := 41) (xt := 41) (m := 1) (xs := [.int .u8 b.toNat, .int .u8 b.toNat]) (i := h3.next + 1) Try.underlying41 tsz48 tby48 tz48 nI41 (by omega) (by omega) rfl (kk.b2 : Own O (h3.push (.row [.int .u8 b.toNat, .int .u8 b.toNat] 48 2 true false)) (os 48 2 (.slice wa acc.length wc) acc.length (rg acc) :: _)) rfl rfl rfl (by omega)
        have c6 := k5.b2.obj
        have k6 := k5.b2.set (.row [.int .i64 2, .slice na (acc.length + 1) nc, .bool ng] 43 3 true false)
        (repeat' first
          | refine AWP.seq ?_
          | refine AWP.block ?_
          | (refine AWP.skip ?_; try dsimp only [thn, inBlk])
          | (refine AWP.exit ?_; try simp only [thn, inBlk, if_true, reduceIte, Nat.reduceEqDiff])
          | (refine AWP.ret ?_; try dsimp only [thn, inBlk])
          | (refine AWP.condT ?_ ?_; (focus (simp [go_sem, i0, i1, i2, i3, hl2, hl4, hx1, c4, c5, e5, c6]; done)))
          | (refine AWP.condF ?_ ?_; (focus (simp [go_sem, i0, i1, i2, i3, hl2, hl4, hx1, c4, c5, e5, c6]; done)))
          | (apply AWP.rE; (focus (simp [go_sem, i0, i1, i2, i3, hl2, hl4, hx1, c4, c5, e5, c6]; exact ⟨rfl, rfl⟩)); try dsimp only [thn, inBlk])
          | (apply AWP.dE hmix [.n 0 [0], .n 1 [24], .n 2 [0], .n 3 [26], .n 4 [25, 27], .n 5 [], .w 6 [5, 28] []]; (focus kernel_rfl); (focus (simp [go_sem, i0, i1, i2, i3, hl2, hl4, hx1, c4, c5, e5, c6]; exact ⟨rfl, rfl⟩)); try dsimp only [thn, inBlk])
          | (apply AWP.dE hmix [.n 0 [0], .n 1 [45], .n 2 [46], .n 3 [47], .n 4 [0, 48], .n 5 [49, 48], .n 6 [50, 48], .n 7 [48, 51], .n 8 [52], .n 9 [0, 53], .n 10 [54, 53], .n 11 [55, 53], .n 12 [53, 56], .n 13 [57], .n 14 [0, 58], .n 15 [59, 58], .n 16 [0, 58], .n 17 [61, 58], .n 18 [60, 62, 58], .n 19 [58, 63]]; (focus kernel_rfl); (focus (simp [go_sem, i0, i1, i2, i3, hl2, hl4, hx1, c4, c5, e5, c6]; exact ⟨rfl, rfl⟩)); try dsimp only [thn, inBlk])
          | fail)
        refine ⟨(r : List UInt8).length, (show (r : List UInt8).length < l.length from by first | omega | (simp; omega)), r, acc ++ [(b, b)], .slice na (acc.length + 1) nc, rfl, ?_, ?_, by simp [go_sem], ?_⟩
        · rw [hgo]; cases clsGo (r : List UInt8) <;> simp
        · simp; omega
        · have e1 : rg (acc ++ [(b, b)]) = rg acc ++ [.int .u8 b.toNat, .int .u8 b.toNat] := by simp [rg, B]
          have e2 : (acc ++ [(b, b)]).length = acc.length + 1 := by simp
          unfold rng
          rw [e1, e2]
          exact k6.d2
    · have i0 := sidx0 hlt
      have i2 := sne hlt
      have i3 := sidx1 hlt
      have i4 := sidx2 hlt
      have i5 := sdrop3 hlt
      have hll : l.length = r.length + 3 := by rw [hlt]; simp
      have hl2 : (1 : Int) < l.length := by omega
      have hl3 : ¬ (l.length : Int) < 3 := by omega
      have hl4 : 1 < l.length := by omega
      have hl5 : ¬ l.length < 3 := by omega
      have hx : (((45 : UInt8).toNat : Int) == 45) = true := rfl
      have g1 : ((b.toNat : Int) == 93) = false := neI (d := 93) b93
      have g2 : ((b.toNat : Int) == 45) = false := neI (d := 45) b45
      have g4 : ¬ b.toNat < a.toNat := fun h => hba (UInt8.lt_iff_toNat_lt.2 h)
      have g3 : ¬ (b.toNat : Int) < a.toNat := by omega
      have c8 := (kt.push (.row [.int .u8 a.toNat, .int .u8 a.toNat] 48 2 true false)).b1.obj
      have kk := kt.push (.row [.int .u8 a.toNat, .int .u8 b.toNat] 48 2 true false)
      have c4 := kk.b1.obj
      have c5 := kk.obj
      obtain ⟨na, nc, h5, e5, k5⟩ := Own.appN (P := Try.prog) (t := 41) (xt := 41) (m := 1) (xs := [.int .u8 a.toNat, .int .u8 b.toNat]) (i := h3.next + 1) Try.underlying41 tsz48 tby48 tz48 nI41 (by omega) (by omega) rfl (kk.b2 : Own O (h3.push (.row [.int .u8 a.toNat, .int .u8 b.toNat] 48 2 true false)) (os 48 2 (.slice wa acc.length wc) acc.length (rg acc) :: _)) rfl rfl rfl (by omega)
      have c6 := k5.b2.obj
      have k6 := k5.b2.set (.row [.int .i64 2, .slice na (acc.length + 1) nc, .bool ng] 43 3 true false)
      (repeat' first
        | refine AWP.seq ?_
        | refine AWP.block ?_
        | (refine AWP.skip ?_; try dsimp only [thn, inBlk])
        | (refine AWP.exit ?_; try simp only [thn, inBlk, if_true, reduceIte, Nat.reduceEqDiff])
        | (refine AWP.ret ?_; try dsimp only [thn, inBlk])
        | (refine AWP.condT ?_ ?_; (focus (simp [go_sem, i0, i2, i3, i4, i5, hl2, hl3, hl4, hl5, hc0, hc1, hc2, hx, g1, g2, g3, g4, c8, c4, c5, e5, c6]; done)))
        | (refine AWP.condF ?_ ?_; (focus (simp [go_sem, i0, i2, i3, i4, i5, hl2, hl3, hl4, hl5, hc0, hc1, hc2, hx, g1, g2, g3, g4, c8, c4, c5, e5, c6]; done)))
        | (apply AWP.rE; (focus (simp [go_sem, i0, i2, i3, i4, i5, hl2, hl3, hl4, hl5, hc0, hc1, hc2, hx, g1, g2, g3, g4, c8, c4, c5, e5, c6]; exact ⟨rfl, rfl⟩)); try dsimp only [thn, inBlk])
        | (apply AWP.dE hmix [.n 0 [0], .n 1 [24], .n 2 [0], .n 3 [26], .n 4 [25, 27], .n 5 [], .w 6 [5, 28] []]; (focus kernel_rfl); (focus (simp [go_sem, i0, i2, i3, i4, i5, hl2, hl3, hl4, hl5, hc0, hc1, hc2, hx, g1, g2, g3, g4, c8, c4, c5, e5, c6]; exact ⟨rfl, rfl⟩)); try dsimp only [thn, inBlk])
        | (apply AWP.dE hmix [.n 0 [0], .n 1 [45], .n 2 [46], .n 3 [47], .n 4 [0, 48], .n 5 [49, 48], .n 6 [50, 48], .n 7 [48, 51], .n 8 [52], .n 9 [0, 53], .n 10 [54, 53], .n 11 [55, 53], .n 12 [53, 56], .n 13 [57], .n 14 [0, 58], .n 15 [59, 58], .n 16 [0, 58], .n 17 [61, 58], .n 18 [60, 62, 58], .n 19 [58, 63]]; (focus kernel_rfl); (focus (simp [go_sem, i0, i2, i3, i4, i5, hl2, hl3, hl4, hl5, hc0, hc1, hc2, hx, g1, g2, g3, g4, c8, c4, c5, e5, c6]; exact ⟨rfl, rfl⟩)); try dsimp only [thn, inBlk])
        | fail)
      refine ⟨(r : List UInt8).length, (show (r : List UInt8).length < l.length from by first | omega | (simp; omega)), r, acc ++ [(a, b)], .slice na (acc.length + 1) nc, rfl, ?_, ?_, by simp [go_sem], ?_⟩
      · rw [hgo]; cases clsGo (r : List UInt8) <;> simp
      · simp; omega
      · have e1 : rg (acc ++ [(a, b)]) = rg acc ++ [.int .u8 a.toNat, .int .u8 b.toNat] := by simp [rg, B]
        have e2 : (acc ++ [(a, b)]).length = acc.length + 1 := by simp
        unfold rng
        rw [e1, e2]
        exact k6.d2
end L15
