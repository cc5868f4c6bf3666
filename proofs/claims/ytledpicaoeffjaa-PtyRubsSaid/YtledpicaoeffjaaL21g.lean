import Derived.Test.YtledpicaoeffjaaL21f
open Go Ab Go.Proofs
namespace L21
set_option autoImplicit false
set_option linter.unusedSimpArgs false
set_option linter.unusedVariables false

theorem key_plain {c : UInt8} {s : Pt} (h1 : 32 ≤ c.toNat) (h2 : c.toNat ≤ 126) (hl : s.line.length < 80) : Pt.key c s = { s with entered := false, line := s.line ++ [c], shown := s.shown ++ [c] } := by
  have ne : ∀ d : UInt8, d.toNat < 32 ∨ 126 < d.toNat → ¬ c = d := by rintro d hd rfl; omega
  have e13 : (c == 13) = false := by simpa using ne 13 (.inl (by decide))
  have g1 : ¬ c < 32 := fun h => by have : c.toNat < 32 := UInt8.lt_iff_toNat_lt.1 h; omega
  have g2 : ¬ 126 < c := fun h => by have : 126 < c.toNat := UInt8.lt_iff_toNat_lt.1 h; omega
  rw [Pt.key]
  simp only [e13, if_neg (ne 10 (.inl (by decide))), if_neg (ne 13 (.inl (by decide))), if_neg (ne 21 (.inl (by decide))), if_neg (ne 3 (.inl (by decide)))]
  rw [if_neg (fun h => h.elim (ne 8 (.inl (by decide))) (ne 127 (.inr (by decide)))), Pt.plain, if_neg (fun h => h.elim g1 g2), if_neg (by simp; omega)]

theorem run_plain (l : List UInt8) : ∀ s : Pt, (∀ c ∈ l, 32 ≤ c.toNat ∧ c.toNat ≤ 126) → s.line.length + l.length ≤ 80 → s.entered = false → Pt.run l s = { s with line := s.line ++ l, shown := s.shown ++ l } := by
  induction l with
  | nil => intro s _ _ _; simp [Pt.run]
  | cons c l ih =>
    intro s h1 h2 h3
    simp only [List.length_cons] at h2
    have hc := h1 c (by simp)
    have := ih { s with entered := false, line := s.line ++ [c], shown := s.shown ++ [c] } (fun d hd => h1 d (by simp [hd])) (by simp; omega) rfl
    simp only [Pt.run, List.foldl_cons] at this ⊢
    rw [key_plain hc.1 hc.2 (by omega), this]
    simp [h3]

def isPlain (l : List UInt8) : Prop := ∀ c ∈ l, 32 ≤ c.toNat ∧ c.toNat ≤ 126

theorem feed_plain {text : List UInt8} {s : Pt} (hp : isPlain text) (hl : text.length ≤ 80) (h1 : s.line = []) (h2 : s.entered = false) :
    s.feed (text ++ [13, 10]) = { s with shown := text ++ [13, 10], lines := [text] } := by
  rw [Pt.feed, run_append, run_plain _ _ hp (by simp [h1]; omega) (by simp [h2])]
  obtain ⟨a, b, c, d, e⟩ := s
  simp only at h1 h2
  subst h1 h2
  simp [Pt.run, Pt.key, Pt.enter]

theorem feed_kill {s : Pt} : (s.feed [21]).line = [] ∧ (s.feed [21]).entered = false := by
  simp [Pt.feed, Pt.run, Pt.key, Pt.kill]

set_option maxHeartbeats 2000000 in
theorem plain_law {h : AHeap} {text other : List UInt8} (hl1 : text.length ≤ 140737488355328) (hl2 : other.length ≤ 140737488355328) :
    ACalls Try.prog 3 #[.string ⟨text.toArray⟩, .string ⟨other.toArray⟩] h fun r _ => r = .bool true := by
  refine Own.of_wf fun k0 => ?_
  refine ACalls.of_awp (args := [.string ⟨text.toArray⟩, .string ⟨other.toArray⟩]) (n := 69) Try.func3 rfl rfl (by show 2 ≤ 69; omega) ?_
  (repeat' first
    | refine AWP.seq ?_
    | refine AWP.block ?_
    | (refine AWP.skip ?_; try dsimp only [thn, inBlk])
    | (refine AWP.exit ?_; try simp only [thn, inBlk, if_true])
    | (refine AWP.ret ?_; try dsimp only [thn, inBlk])
    | (refine AWP.condT ?_ ?_; (focus (simp [go_sem]; done)))
    | (refine AWP.condF ?_ ?_; (focus (simp [go_sem]; done)))
    | (apply AWP.rE; (focus (simp [go_sem]; exact ⟨rfl, rfl⟩)); try dsimp only [thn, inBlk])
    | fail)
  refine AWP.callE (by simp [go_sem]; exact ⟨rfl, rfl, rfl, rfl, rfl⟩) (by kernel_rfl) ?_
  refine (speaks_calls k0).mono ?_
  rintro r h1 ⟨rfl, k1⟩
  refine awpL_restE (by simp [go_sem]; exact ⟨rfl, rfl⟩) ?_; try dsimp only [thn, inBlk]
  by_cases g1 : 80 < text.length
  · have g1' : (80 : Int) < text.length := by omega
    (repeat' first
      | refine AWP.seq ?_
      | refine AWP.block ?_
      | (refine AWP.skip ?_; try dsimp only [thn, inBlk])
      | (refine AWP.exit ?_; try simp only [thn, inBlk, if_true])
      | (refine AWP.ret ?_; try dsimp only [thn, inBlk])
      | (refine AWP.condT ?_ ?_; (focus (simp [go_sem, g1']; done)))
      | (refine AWP.condF ?_ ?_; (focus (simp [go_sem, g1']; done)))
      | (apply AWP.rE; (focus (simp [go_sem, g1']; exact ⟨rfl, rfl⟩)); try dsimp only [thn, inBlk])
      | fail)
    simp [bodyQ, thn, inBlk, resA, resV, go_sem]
  have g1' : ¬ (80 : Int) < text.length := by omega
  by_cases g2 : 200 < other.length
  · have g2' : (200 : Int) < other.length := by omega
    (repeat' first
      | refine AWP.seq ?_
      | refine AWP.block ?_
      | (refine AWP.skip ?_; try dsimp only [thn, inBlk])
      | (refine AWP.exit ?_; try simp only [thn, inBlk, if_true])
      | (refine AWP.ret ?_; try dsimp only [thn, inBlk])
      | (refine AWP.condT ?_ ?_; (focus (simp [go_sem, g1', g2']; done)))
      | (refine AWP.condF ?_ ?_; (focus (simp [go_sem, g1', g2']; done)))
      | (apply AWP.rE; (focus (simp [go_sem, g1', g2']; exact ⟨rfl, rfl⟩)); try dsimp only [thn, inBlk])
      | fail)
    simp [bodyQ, thn, inBlk, resA, resV, go_sem]
  have g2' : ¬ (200 : Int) < other.length := by omega
  (repeat' first
    | refine AWP.seq ?_
    | refine AWP.block ?_
    | (refine AWP.skip ?_; try dsimp only [thn, inBlk])
    | (refine AWP.exit ?_; try simp only [thn, inBlk, if_true])
    | (refine AWP.ret ?_; try dsimp only [thn, inBlk])
    | (refine AWP.condT ?_ ?_; (focus (simp [go_sem, g1', g2']; done)))
    | (refine AWP.condF ?_ ?_; (focus (simp [go_sem, g1', g2']; done)))
    | (apply AWP.rE; (focus (simp [go_sem, g1', g2']; exact ⟨rfl, rfl⟩)); try dsimp only [thn, inBlk])
    | fail)
  refine AWP.loopR [0, 1, 5] (fun m s' h' => ∃ j : Nat, j ≤ text.length ∧ m = text.length - j ∧ h' = h1 ∧ s' = ⟨69, [(0, .string ⟨text.toArray⟩), (1, .string ⟨other.toArray⟩), (5, .int .i64 j)]⟩ ∧ isPlain (text.take j)) ?_ ?_
  · exact ⟨_, 0, by omega, rfl, rfl, by simp [go_sem], by simp [isPlain]⟩
  rintro m s' h' ⟨j, hj, rfl, rfl, rfl, hpl⟩
  by_cases hj2 : j < text.length
  · have hj3 : (j : Int) < text.length := by omega
    have w1 : IntKind.i64.wrap ((j : Int) + 1) = j + 1 := wI64 (by omega) (by omega)
    have si := str_index (P := Try.prog) (t := 9) Try.underlying9 hj2 (kd := .i64)
    by_cases p1 : text[j].toNat < 32
    · have p1' : (text[j].toNat : Int) < 32 := by omega
      (repeat' first
        | refine AWP.seq ?_
        | refine AWP.block ?_
        | (refine AWP.skip ?_; try dsimp only [thn, inBlk])
        | (refine AWP.exit ?_; try simp only [thn, inBlk, if_true])
        | (refine AWP.ret ?_; try dsimp only [thn, inBlk])
        | (refine AWP.condT ?_ ?_; (focus (simp [go_sem, hj3, si, p1']; done)))
        | (refine AWP.condF ?_ ?_; (focus (simp [go_sem, hj3, si, p1']; done)))
        | (apply AWP.rE; (focus (simp [go_sem, hj3, si, p1']; exact ⟨rfl, rfl⟩)); try dsimp only [thn, inBlk])
        | fail)
      simp [bodyQ, thn, inBlk, resA, resV, go_sem]
    have p1' : ¬ (text[j].toNat : Int) < 32 := by omega
    by_cases p2 : 126 < text[j].toNat
    · have p2' : (126 : Int) < text[j].toNat := by omega
      (repeat' first
        | refine AWP.seq ?_
        | refine AWP.block ?_
        | (refine AWP.skip ?_; try dsimp only [thn, inBlk])
        | (refine AWP.exit ?_; try simp only [thn, inBlk, if_true])
        | (refine AWP.ret ?_; try dsimp only [thn, inBlk])
        | (refine AWP.condT ?_ ?_; (focus (simp [go_sem, hj3, si, p1', p2']; done)))
        | (refine AWP.condF ?_ ?_; (focus (simp [go_sem, hj3, si, p1', p2']; done)))
        | (apply AWP.rE; (focus (simp [go_sem, hj3, si, p1', p2']; exact ⟨rfl, rfl⟩)); try dsimp only [thn, inBlk])
        | fail)
      simp [bodyQ, thn, inBlk, resA, resV, go_sem]
    have p2' : ¬ (126 : Int) < text[j].toNat := by omega
    (repeat' first
      | refine AWP.seq ?_
      | refine AWP.block ?_
      | (refine AWP.skip ?_; try dsimp only [thn, inBlk])
      | (refine AWP.exit ?_; try simp only [thn, inBlk, if_true])
      | (refine AWP.ret ?_; try dsimp only [thn, inBlk])
      | (refine AWP.condT ?_ ?_; (focus (simp [go_sem, hj3, si, p1', p2', w1]; done)))
      | (refine AWP.condF ?_ ?_; (focus (simp [go_sem, hj3, si, p1', p2', w1]; done)))
      | (apply AWP.rE; (focus (simp [go_sem, hj3, si, p1', p2', w1]; exact ⟨rfl, rfl⟩)); try dsimp only [thn, inBlk])
      | fail)
    refine ⟨text.length - (j + 1), by omega, j + 1, by omega, rfl, rfl, by simp [go_sem], ?_⟩
    rw [isPlain, List.take_succ_eq_append_getElem hj2]
    intro c hc
    rcases List.mem_append.1 hc with hc | hc
    · exact hpl c hc
    · simp at hc; subst hc; omega
  have hj3 : ¬ (j : Int) < text.length := by omega
  obtain rfl : j = text.length := by omega
  rw [List.take_length] at hpl
  (repeat' first
    | refine AWP.seq ?_
    | refine AWP.block ?_
    | (refine AWP.skip ?_; try dsimp only [thn, inBlk])
    | (refine AWP.exit ?_; try simp only [thn, inBlk, if_true])
    | (refine AWP.ret ?_; try dsimp only [thn, inBlk])
    | (refine AWP.condT ?_ ?_; (focus (simp [go_sem, hj3]; done)))
    | (refine AWP.condF ?_ ?_; (focus (simp [go_sem, hj3]; done)))
    | (apply AWP.rE; (focus (simp [go_sem, hj3]; exact ⟨rfl, rfl⟩)); try dsimp only [thn, inBlk])
    | fail)
  refine AWP.callE (by simp [go_sem]; exact ⟨rfl, rfl, rfl, rfl, rfl⟩) (by kernel_rfl) ?_
  refine (new_calls k1).mono ?_
  rintro r h3 ⟨i, rfl, k2⟩
  refine awpL_restE (by simp [go_sem]; exact ⟨rfl, rfl⟩) ?_; try dsimp only [thn, inBlk]
  (repeat' first
    | refine AWP.seq ?_
    | refine AWP.block ?_
    | (refine AWP.skip ?_; try dsimp only [thn, inBlk])
    | (refine AWP.exit ?_; try simp only [thn, inBlk, if_true])
    | (refine AWP.ret ?_; try dsimp only [thn, inBlk])
    | (refine AWP.condT ?_ ?_; (focus (simp [go_sem]; done)))
    | (refine AWP.condF ?_ ?_; (focus (simp [go_sem]; done)))
    | (apply AWP.rE; (focus (simp [go_sem]; exact ⟨rfl, rfl⟩)); try dsimp only [thn, inBlk])
    | fail)
  have k3 := k2.push (.row (other.map B) 5 1 false false)
  refine AWP.callE (by simp [go_sem, bytesA]; exact ⟨rfl, rfl, rfl, rfl, rfl⟩) (by kernel_rfl) ?_
  refine (feed_calls (n := 0) (bs := other) k3.b1 (fun h k => rowB k rfl rfl) ⟨by simp, by simp, by simp, by simp⟩ (by omega)).mono ?_
  rintro r h4 ⟨vl, aw, cw, an, cn, rfl, k4⟩
  refine awpL_restE (by simp [go_sem]; exact ⟨rfl, rfl⟩) ?_; try dsimp only [thn, inBlk]
  have ok4 := feed_ok (s := ⟨[], false, 0, [], []⟩) (n := 0) ⟨by simp, by simp, by simp, by simp⟩ other
  have k5 := pty_mk k4
  generalize Pt.feed other ⟨[], false, 0, [], []⟩ = s1 at *
  (repeat' first
    | refine AWP.seq ?_
    | refine AWP.block ?_
    | (refine AWP.skip ?_; try dsimp only [thn, inBlk])
    | (refine AWP.exit ?_; try simp only [thn, inBlk, if_true])
    | (refine AWP.ret ?_; try dsimp only [thn, inBlk])
    | (refine AWP.condT ?_ ?_; (focus (simp [go_sem]; done)))
    | (refine AWP.condF ?_ ?_; (focus (simp [go_sem]; done)))
    | (apply AWP.rE; (focus (simp [go_sem]; exact ⟨rfl, rfl⟩)); try dsimp only [thn, inBlk])
    | fail)
  have k6 := k5.push (.row [.int .u8 21] 5 1 true false)
  refine AWP.callE (by simp [go_sem]; exact ⟨rfl, rfl, rfl, rfl, rfl⟩) (by kernel_rfl) ?_
  refine (feed_calls (bs := [21]) k6.b1 (fun h k => rowB k rfl rfl) ok4 (by simp; omega)).mono ?_
  rintro r h5 ⟨vl, aw, cw, an, cn, rfl, k7⟩
  refine awpL_restE (by simp [go_sem]; exact ⟨rfl, rfl⟩) ?_; try dsimp only [thn, inBlk]
  have ok7 := feed_ok ok4 [21]
  obtain ⟨z1, z2⟩ := feed_kill (s := s1)
  have k8 := pty_mk k7
  generalize s1.feed [21] = s2 at *
  have hs : text.length + 2 ≤ 9223372036854775807 := by omega
  (repeat' first
    | refine AWP.seq ?_
    | refine AWP.block ?_
    | (refine AWP.skip ?_; try dsimp only [thn, inBlk])
    | (refine AWP.exit ?_; try simp only [thn, inBlk, if_true])
    | (refine AWP.ret ?_; try dsimp only [thn, inBlk])
    | (refine AWP.condT ?_ ?_; (focus (simp [go_sem]; done)))
    | (refine AWP.condF ?_ ?_; (focus (simp [go_sem]; done)))
    | (apply AWP.rE; (focus (simp [go_sem]; exact ⟨rfl, rfl⟩)); try dsimp only [thn, inBlk])
    | fail)
  have k9 := k8.push (.row (text.map B ++ [B 13, B 10]) 5 1 false false)
  refine AWP.callE (by simp [go_sem, bytesA, hs]; exact ⟨rfl, rfl, rfl, rfl, rfl⟩) (by kernel_rfl) ?_
  refine (feed_calls (bs := text ++ [13, 10]) k9.b1 (fun h k => rowB k (by simp) (by simp)) ok7 (by simp; omega)).mono ?_
  rintro r h6 ⟨vl, aw, cw, an, cn, rfl, k10⟩
  rw [feed_plain hpl (by omega) z1 z2] at k10 ⊢
  refine awpL_restE (by simp [go_sem]; exact ⟨rfl, rfl⟩) ?_; try dsimp only [thn, inBlk]
  (repeat' first
    | refine AWP.seq ?_
    | refine AWP.block ?_
    | (refine AWP.skip ?_; try dsimp only [thn, inBlk])
    | (refine AWP.exit ?_; try simp only [thn, inBlk, if_true])
    | (refine AWP.ret ?_; try dsimp only [thn, inBlk])
    | (refine AWP.condT ?_ ?_; (focus (simp [go_sem]; done)))
    | (refine AWP.condF ?_ ?_; (focus (simp [go_sem]; done)))
    | (apply AWP.rE; (focus (simp [go_sem]; exact ⟨rfl, rfl⟩)); try dsimp only [thn, inBlk])
    | fail)
  simp only [] at k10
  have k11 := k10.push (.row [.string ⟨text.toArray⟩] 9 1 true false)
  have sr := k11.b3.ob_bytes.str (P := Try.prog) (t := 25) (e := 5) (u := 9) Try.underlying25 Try.underlying5 Try.underlying9
  have e2 : (text ++ [(13 : UInt8), 10]).length = text.length + 2 := by simp
  rw [e2] at sr
  have k12 := pty_mk (s := { s2 with shown := text ++ [13, 10], lines := [text] }) k11.p4
  refine AWP.callE (by simp [go_sem]; exact ⟨rfl, rfl, rfl, rfl, rfl⟩) (by kernel_rfl) ?_
  refine (same_calls (xs := [text]) (ys := [text]) k11.b4.os_sl (k11.row_any (n := 1) rfl).os_sl (by simp)).mono ?_
  rintro r h7 ⟨rfl, rfl⟩
  refine awpL_toCall (by simp [go_sem, sr, hs]; exact ⟨rfl, rfl, rfl, rfl, rfl⟩) (by kernel_rfl) ?_
  refine (line_calls k12).mono ?_
  rintro r h8 ⟨rfl, rfl⟩
  refine awpL_restE (by simp [go_sem, z1]; exact ⟨rfl, rfl⟩) ?_; try dsimp only [thn, inBlk]
  (repeat' first
    | refine AWP.seq ?_
    | refine AWP.block ?_
    | (refine AWP.skip ?_; try dsimp only [thn, inBlk])
    | (refine AWP.exit ?_; try simp only [thn, inBlk, if_true])
    | (refine AWP.ret ?_; try dsimp only [thn, inBlk])
    | (refine AWP.condT ?_ ?_; (focus (simp [go_sem]; done)))
    | (refine AWP.condF ?_ ?_; (focus (simp [go_sem]; done)))
    | (apply AWP.rE; (focus (simp [go_sem]; exact ⟨rfl, rfl⟩)); try dsimp only [thn, inBlk])
    | fail)
  simp [bodyQ, thn, inBlk, resA, resV, go_sem]
end L21
