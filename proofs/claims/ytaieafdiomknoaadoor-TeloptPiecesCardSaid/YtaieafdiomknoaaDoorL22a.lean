import Derived.Test.YtaieafdiomknoaaDoorL22T
import Derived.Test.YtaieafdiomknoaaDoorAbLibE
open Go Ab Go.Proofs
namespace L22
set_option autoImplicit false
set_option linter.unusedSimpArgs false
set_option linter.unusedVariables false

abbrev ptr (i : Nat) : Value := .pointer (some ⟨i, 0, none⟩)

/-! ### bytes.IndexByte, Index, Count, Replace at one byte -/
theorem ex49 : ExRow Tryd.prog 49 .index := ⟨_, Tryd.func49, rfl, rfl, rfl, rfl⟩
theorem ex42 : ExRow Tryd.prog 42 .count := ⟨_, Tryd.func42, rfl, rfl, rfl, rfl⟩
theorem bidx_calls {h : AHeap} {v : Value} {bs : List UInt8} {c : UInt8} (hx : Bytes h v bs) :
    ACalls Tryd.prog 43 #[v, .int .u8 c.toNat] h fun r h' => r = .int .i64 (Lib.indexByte bs c) ∧ h' = h := by
  refine ACalls.of_awp (args := [v, .int .u8 c.toNat]) (n := 8) Tryd.func43 rfl rfl (by show 2 ≤ 8; omega) ?_
  (repeat' first
    | refine AWP.seq ?_
    | refine AWP.block ?_
    | (refine AWP.skip ?_; try dsimp only [thn, inBlk])
    | (refine AWP.exit ?_; try simp only [thn, inBlk, if_true, reduceIte, Nat.reduceEqDiff])
    | (refine AWP.ret ?_; try dsimp only [thn, inBlk])
    | (refine AWP.condT ?_ ?_; (focus (simp [go_sem]; done)))
    | (refine AWP.condF ?_ ?_; (focus (simp [go_sem]; done)))
    | (apply AWP.rE; (focus (simp [go_sem]; exact ⟨rfl, rfl⟩)); try dsimp only [thn, inBlk])
    | fail)
  refine AWP.extE (by simp [go_sem]; exact ⟨rfl, rfl, rfl, rfl, rfl⟩) (ex49) (exV_bytes hx .index c) ?_
  refine awpL_restE (by simp [go_sem]; exact ⟨rfl, rfl⟩) ?_; try dsimp only [thn, inBlk]
  (repeat' first
    | refine AWP.seq ?_
    | refine AWP.block ?_
    | (refine AWP.skip ?_; try dsimp only [thn, inBlk])
    | (refine AWP.exit ?_; try simp only [thn, inBlk, if_true, reduceIte, Nat.reduceEqDiff])
    | (refine AWP.ret ?_; try dsimp only [thn, inBlk])
    | (refine AWP.condT ?_ ?_; (focus (simp [go_sem]; done)))
    | (refine AWP.condF ?_ ?_; (focus (simp [go_sem]; done)))
    | (apply AWP.rE; (focus (simp [go_sem]; exact ⟨rfl, rfl⟩)); try dsimp only [thn, inBlk])
    | fail)
  simp [bodyQ, thn, inBlk, resA, resV, go_sem]
  rfl

theorem index_calls {h : AHeap} {v w : Value} {bs : List UInt8} {c : UInt8} (hx : Bytes h v bs) (hw : Bytes h w [c]) :
    ACalls Tryd.prog 39 #[v, w] h fun r h' => r = .int .i64 (Lib.indexByte bs c) ∧ h' = h := by
  obtain ⟨va, vc, rfl⟩ := hx.val
  obtain ⟨wa, wc, rfl⟩ := hw.val
  obtain ⟨i0, o0, r0, e0, z0, ti0, ro0, p0, q0, g0⟩ := hw.at (P := Tryd.prog) (t := 22) Tryd.underlying22 tsz5 (j := 0) (by simp) (kd := .i64)
  have p0 : indexAddrP Tryd.prog 22 (.slice wa [c].length wc) (.int .i64 0) = some (.pointer (some ⟨i0, o0, none⟩)) := p0
  simp only [List.getElem_cons_zero, List.length_singleton] at g0 p0
  refine ACalls.of_awp (args := [.slice va bs.length vc, .slice wa [c].length wc]) (n := 200) Tryd.func39 rfl rfl (by show 2 ≤ 200; omega) ?_
  (repeat' first
    | refine AWP.seq ?_
    | refine AWP.block ?_
    | (refine AWP.skip ?_; try dsimp only [thn, inBlk])
    | (refine AWP.exit ?_; try simp only [thn, inBlk, if_true, reduceIte, Nat.reduceEqDiff])
    | (refine AWP.ret ?_; try dsimp only [thn, inBlk])
    | (refine AWP.condT ?_ ?_; (focus (simp [go_sem, p0, q0, g0]; done)))
    | (refine AWP.condF ?_ ?_; (focus (simp [go_sem, p0, q0, g0]; done)))
    | (apply AWP.rE; (focus (simp [go_sem, p0, q0, g0]; exact ⟨rfl, rfl⟩)); try dsimp only [thn, inBlk])
    | fail)
  refine AWP.callE (by simp [go_sem, p0, q0, g0]; exact ⟨rfl, rfl, rfl, rfl, rfl⟩) (by kernel_rfl) ?_
  refine (bidx_calls (c := c) hx).mono ?_
  rintro r h' ⟨rfl, rfl⟩
  refine awpL_restE (by simp [go_sem]; exact ⟨rfl, rfl⟩) ?_; try dsimp only [thn, inBlk]
  (repeat' first
    | refine AWP.seq ?_
    | refine AWP.block ?_
    | (refine AWP.skip ?_; try dsimp only [thn, inBlk])
    | (refine AWP.exit ?_; try simp only [thn, inBlk, if_true, reduceIte, Nat.reduceEqDiff])
    | (refine AWP.ret ?_; try dsimp only [thn, inBlk])
    | (refine AWP.condT ?_ ?_; (focus (simp [go_sem]; done)))
    | (refine AWP.condF ?_ ?_; (focus (simp [go_sem]; done)))
    | (apply AWP.rE; (focus (simp [go_sem]; exact ⟨rfl, rfl⟩)); try dsimp only [thn, inBlk])
    | fail)
  simp [bodyQ, thn, inBlk, resA, resV, go_sem]

theorem count_calls {h : AHeap} {v w : Value} {bs : List UInt8} {c : UInt8} (hx : Bytes h v bs) (hw : Bytes h w [c]) :
    ACalls Tryd.prog 38 #[v, w] h fun r h' => r = .int .i64 ((bs.count c : Nat) : Int) ∧ h' = h := by
  obtain ⟨va, vc, rfl⟩ := hx.val
  obtain ⟨wa, wc, rfl⟩ := hw.val
  obtain ⟨i0, o0, r0, e0, z0, ti0, ro0, p0, q0, g0⟩ := hw.at (P := Tryd.prog) (t := 22) Tryd.underlying22 tsz5 (j := 0) (by simp) (kd := .i64)
  have p0 : indexAddrP Tryd.prog 22 (.slice wa [c].length wc) (.int .i64 0) = some (.pointer (some ⟨i0, o0, none⟩)) := p0
  simp only [List.getElem_cons_zero, List.length_singleton] at g0 p0
  refine ACalls.of_awp (args := [.slice va bs.length vc, .slice wa [c].length wc]) (n := 35) Tryd.func38 rfl rfl (by show 2 ≤ 35; omega) ?_
  (repeat' first
    | refine AWP.seq ?_
    | refine AWP.block ?_
    | (refine AWP.skip ?_; try dsimp only [thn, inBlk])
    | (refine AWP.exit ?_; try simp only [thn, inBlk, if_true, reduceIte, Nat.reduceEqDiff])
    | (refine AWP.ret ?_; try dsimp only [thn, inBlk])
    | (refine AWP.condT ?_ ?_; (focus (simp [go_sem, p0, q0, g0]; done)))
    | (refine AWP.condF ?_ ?_; (focus (simp [go_sem, p0, q0, g0]; done)))
    | (apply AWP.rE; (focus (simp [go_sem, p0, q0, g0]; exact ⟨rfl, rfl⟩)); try dsimp only [thn, inBlk])
    | fail)
  refine AWP.extE (by simp [go_sem, p0, q0, g0]; exact ⟨rfl, rfl, rfl, rfl, rfl⟩) (ex42) (exV_bytes hx .count c) ?_
  refine awpL_restE (by simp [go_sem]; exact ⟨rfl, rfl⟩) ?_; try dsimp only [thn, inBlk]
  (repeat' first
    | refine AWP.seq ?_
    | refine AWP.block ?_
    | (refine AWP.skip ?_; try dsimp only [thn, inBlk])
    | (refine AWP.exit ?_; try simp only [thn, inBlk, if_true, reduceIte, Nat.reduceEqDiff])
    | (refine AWP.ret ?_; try dsimp only [thn, inBlk])
    | (refine AWP.condT ?_ ?_; (focus (simp [go_sem]; done)))
    | (refine AWP.condF ?_ ?_; (focus (simp [go_sem]; done)))
    | (apply AWP.rE; (focus (simp [go_sem]; exact ⟨rfl, rfl⟩)); try dsimp only [thn, inBlk])
    | fail)
  simp [bodyQ, thn, inBlk, resA, resV, go_sem]
  rfl

/-- Each 255 twice. -/
def esc (bs : List UInt8) : List UInt8 := bs.flatMap fun c => if c = 255 then [255, 255] else [c]
theorem esc_append (a b : List UInt8) : esc (a ++ b) = esc a ++ esc b := by simp [esc]
theorem esc_none : ∀ {l : List UInt8}, (255 : UInt8) ∉ l → esc l = l
  | [], _ => rfl
  | c :: l, h => by
    simp only [List.mem_cons, not_or] at h
    have : c ≠ 255 := Ne.symm h.1
    have e := esc_none h.2
    simp only [esc, List.flatMap_cons] at e ⊢
    rw [if_neg this, e]; rfl
theorem esc_length (l : List UInt8) : (esc l).length = l.length + l.count 255 := by
  induction l with
  | nil => rfl
  | cons c l ih =>
    simp only [esc, List.flatMap_cons, List.length_append, List.length_cons] at ih ⊢
    by_cases h : c = 255
    · subst h; simp [ih]; omega
    · rw [List.count_cons_of_ne h, if_neg h]; simp [ih]; omega

theorem replace_calls {O : Old} {h : AHeap} {R : List Chunk} {v o w : Value} {bs : List UInt8} (k : Own O h R) (hx : ∀ h, Own O h R → Bytes h v bs) (ho : ∀ h, Own O h R → Bytes h o [255]) (hw : ∀ h, Own O h R → Bytes h w [255, 255]) (hm : bs.length ≤ 1000000) :
    ACalls Tryd.prog 36 #[v, o, w, .int .i64 (-1)] h fun r h' => ∃ a cap, r = .slice a (esc bs).length cap ∧ Own O h' (ob 5 (.slice a (esc bs).length cap) (esc bs) :: R) := by
  have hx0 := hx h k
  have ho0 := ho h k
  have hw0 := hw h k
  obtain ⟨va, vc, rfl⟩ := hx0.val
  obtain ⟨oa, oc, rfl⟩ := ho0.val
  obtain ⟨wa, wc, rfl⟩ := hw0.val
  refine ACalls.of_awp (args := [.slice va bs.length vc, .slice oa [(255 : UInt8)].length oc, .slice wa [(255 : UInt8), 255].length wc, .int .i64 (-1)]) (n := 132) Tryd.func36 rfl rfl (by show 4 ≤ 132; omega) ?_
  (repeat' first
    | refine AWP.seq ?_
    | refine AWP.block ?_
    | (refine AWP.skip ?_; try dsimp only [thn, inBlk])
    | (refine AWP.exit ?_; try simp only [thn, inBlk, if_true, reduceIte, Nat.reduceEqDiff])
    | (refine AWP.ret ?_; try dsimp only [thn, inBlk])
    | (refine AWP.condT ?_ ?_; (focus (simp [go_sem]; done)))
    | (refine AWP.condF ?_ ?_; (focus (simp [go_sem]; done)))
    | (apply AWP.rE; (focus (simp [go_sem]; exact ⟨rfl, rfl⟩)); try dsimp only [thn, inBlk])
    | (apply AWP.dE hmix [.n 0 [11], .n 1 [10], .n 2 [11], .n 3 [59, 60], .n 4 [0], .n 5 [12], .n 6 [13], .n 7 [62, 63, 64], .w 8 [61, 65] [], .n 9 [58, 66], .n 10 [67]]; (focus kernel_rfl); (focus (simp [go_sem]; exact ⟨rfl, rfl⟩)); try dsimp only [thn, inBlk])
    | (apply AWP.dE hmix [.n 0 [11], .n 1 [10], .n 2 [11], .n 3 [102, 103], .n 4 [0], .n 5 [12], .n 6 [16], .n 7 [105, 106, 107], .w 8 [104, 108] [], .n 9 [101, 109], .n 10 [110]]; (focus kernel_rfl); (focus (simp [go_sem]; exact ⟨rfl, rfl⟩)); try dsimp only [thn, inBlk])
    | (apply AWP.dE hmix [.n 0 [11], .n 1 [10], .n 2 [11], .n 3 [121, 122], .n 4 [0], .n 5 [12], .n 6 [124, 125], .w 7 [123, 126] [], .n 8 [120, 127], .n 9 [128]]; (focus kernel_rfl); (focus (simp [go_sem]; exact ⟨rfl, rfl⟩)); try dsimp only [thn, inBlk])
    | fail)
  refine AWP.callE (by simp [go_sem]; exact ⟨rfl, rfl, rfl, rfl, rfl⟩) (by kernel_rfl) ?_
  refine (count_calls (c := 255) hx0 ho0).mono ?_
  rintro r h' ⟨rfl, rfl⟩
  refine awpL_restE (by simp [go_sem]; exact ⟨rfl, rfl⟩) ?_; try dsimp only [thn, inBlk]
  obtain ⟨m, hmm⟩ : ∃ m, m = bs.count 255 := ⟨_, rfl⟩
  rw [← hmm]
  have hml : m ≤ bs.length := hmm ▸ List.count_le_length
  by_cases h0 : m = 0
  · have he : esc bs = bs := esc_none (List.count_eq_zero.1 (hmm ▸ h0))
    obtain ⟨a2, c2, h2, e1, k2⟩ := (k.nil 5 1).appB (P := Tryd.prog) (t := 22) (xt := 22) (bs := []) Tryd.underlying22 tsz5 tby5 tz5 nI22 hx0.src (by show 0 + _ ≤ _; omega)
    simp only [List.length_nil, Nat.zero_add, List.nil_append] at e1 k2
    rw [he]
    (repeat' first
      | refine AWP.seq ?_
      | refine AWP.block ?_
      | (refine AWP.skip ?_; try dsimp only [thn, inBlk])
      | (refine AWP.exit ?_; try simp only [thn, inBlk, if_true, reduceIte, Nat.reduceEqDiff])
      | (refine AWP.ret ?_; try dsimp only [thn, inBlk])
      | (refine AWP.condT ?_ ?_; (focus (simp [go_sem, h0, e1]; done)))
      | (refine AWP.condF ?_ ?_; (focus (simp [go_sem, h0, e1]; done)))
      | (apply AWP.rE; (focus (simp [go_sem, h0, e1]; exact ⟨rfl, rfl⟩)); try dsimp only [thn, inBlk])
      | (apply AWP.dE hmix [.n 0 [11], .n 1 [10], .n 2 [11], .n 3 [59, 60], .n 4 [0], .n 5 [12], .n 6 [13], .n 7 [62, 63, 64], .w 8 [61, 65] [], .n 9 [58, 66], .n 10 [67]]; (focus kernel_rfl); (focus (simp [go_sem, h0, e1]; exact ⟨rfl, rfl⟩)); try dsimp only [thn, inBlk])
      | (apply AWP.dE hmix [.n 0 [11], .n 1 [10], .n 2 [11], .n 3 [102, 103], .n 4 [0], .n 5 [12], .n 6 [16], .n 7 [105, 106, 107], .w 8 [104, 108] [], .n 9 [101, 109], .n 10 [110]]; (focus kernel_rfl); (focus (simp [go_sem, h0, e1]; exact ⟨rfl, rfl⟩)); try dsimp only [thn, inBlk])
      | (apply AWP.dE hmix [.n 0 [11], .n 1 [10], .n 2 [11], .n 3 [121, 122], .n 4 [0], .n 5 [12], .n 6 [124, 125], .w 7 [123, 126] [], .n 8 [120, 127], .n 9 [128]]; (focus kernel_rfl); (focus (simp [go_sem, h0, e1]; exact ⟨rfl, rfl⟩)); try dsimp only [thn, inBlk])
      | fail)
    simp [bodyQ, thn, inBlk, resA, resV, go_sem]
    exact ⟨_, _, ⟨rfl, rfl⟩, k2⟩
  have h0' : ((m : Int) == 0) = false := by simpa using h0
  have h0p : ¬ (m : Int) < 0 := by omega
  have w1 : IntKind.i64.wrap 1 = 1 := by decide
  have w2 : IntKind.i64.wrap (m : Int) = m := wI64 (by omega) (by omega)
  obtain ⟨L, hL⟩ : ∃ L, L = bs.length + m := ⟨_, rfl⟩
  have w3 : IntKind.i64.wrap ((bs.length : Int) + m) = L := by rw [wI64 (by omega) (by omega)]; omega
  have e3 : ∀ id, makeSliceA Tryd.prog id 22 (.int .i64 L) (.int .i64 L) = some (.slice (some ⟨id, 0, none⟩) L L, .row (List.replicate L (B 0)) 5 1 true false) := fun id => mkBytes Tryd.underlying22 tsz5 tby5 tz5 (by omega)
  have k1 : Own O (h'.push (.row (List.replicate L (B 0)) 5 1 true false)) (ob 5 (.slice (some ⟨h'.next, 0, none⟩) L L) (List.replicate L 0) :: R) := by
    exact k.fresh0
  (repeat' first
    | refine AWP.seq ?_
    | refine AWP.block ?_
    | (refine AWP.skip ?_; try dsimp only [thn, inBlk])
    | (refine AWP.exit ?_; try simp only [thn, inBlk, if_true, reduceIte, Nat.reduceEqDiff])
    | (refine AWP.ret ?_; try dsimp only [thn, inBlk])
    | (apply AWP.rE; (focus (simp [go_sem, h0, h0', h0p, w1, w2, w3, e3]; exact ⟨rfl, rfl⟩)); try dsimp only [thn, inBlk])
    | (apply AWP.dE hmix [.n 0 [11], .n 1 [10], .n 2 [11], .n 3 [59, 60], .n 4 [0], .n 5 [12], .n 6 [13], .n 7 [62, 63, 64], .w 8 [61, 65] [], .n 9 [58, 66], .n 10 [67]]; (focus kernel_rfl); (focus (simp [go_sem, h0, h0', h0p, w1, w2, w3, e3]; exact ⟨rfl, rfl⟩)); try dsimp only [thn, inBlk])
    | (apply AWP.dE hmix [.n 0 [11], .n 1 [10], .n 2 [11], .n 3 [102, 103], .n 4 [0], .n 5 [12], .n 6 [16], .n 7 [105, 106, 107], .w 8 [104, 108] [], .n 9 [101, 109], .n 10 [110]]; (focus kernel_rfl); (focus (simp [go_sem, h0, h0', h0p, w1, w2, w3, e3]; exact ⟨rfl, rfl⟩)); try dsimp only [thn, inBlk])
    | (apply AWP.dE hmix [.n 0 [11], .n 1 [10], .n 2 [11], .n 3 [121, 122], .n 4 [0], .n 5 [12], .n 6 [124, 125], .w 7 [123, 126] [], .n 8 [120, 127], .n 9 [128]]; (focus kernel_rfl); (focus (simp [go_sem, h0, h0', h0p, w1, w2, w3, e3]; exact ⟨rfl, rfl⟩)); try dsimp only [thn, inBlk])
    | fail)
  (first | (refine AWP.condT ?_ ?_; (focus (simp [go_sem, h0, h0', h0p, w1, w2, w3, e3]; done))) | (refine AWP.condF ?_ ?_; (focus (simp [go_sem, h0, h0', h0p, w1, w2, w3, e3]; done))))
  (repeat' first
    | refine AWP.seq ?_
    | refine AWP.block ?_
    | (refine AWP.skip ?_; try dsimp only [thn, inBlk])
    | (refine AWP.exit ?_; try simp only [thn, inBlk, if_true, reduceIte, Nat.reduceEqDiff])
    | (refine AWP.ret ?_; try dsimp only [thn, inBlk])
    | (apply AWP.rE; (focus (simp [go_sem, h0, h0', h0p, w1, w2, w3, e3]; exact ⟨rfl, rfl⟩)); try dsimp only [thn, inBlk])
    | (apply AWP.dE hmix [.n 0 [11], .n 1 [10], .n 2 [11], .n 3 [59, 60], .n 4 [0], .n 5 [12], .n 6 [13], .n 7 [62, 63, 64], .w 8 [61, 65] [], .n 9 [58, 66], .n 10 [67]]; (focus kernel_rfl); (focus (simp [go_sem, h0, h0', h0p, w1, w2, w3, e3]; exact ⟨rfl, rfl⟩)); try dsimp only [thn, inBlk])
    | (apply AWP.dE hmix [.n 0 [11], .n 1 [10], .n 2 [11], .n 3 [102, 103], .n 4 [0], .n 5 [12], .n 6 [16], .n 7 [105, 106, 107], .w 8 [104, 108] [], .n 9 [101, 109], .n 10 [110]]; (focus kernel_rfl); (focus (simp [go_sem, h0, h0', h0p, w1, w2, w3, e3]; exact ⟨rfl, rfl⟩)); try dsimp only [thn, inBlk])
    | (apply AWP.dE hmix [.n 0 [11], .n 1 [10], .n 2 [11], .n 3 [121, 122], .n 4 [0], .n 5 [12], .n 6 [124, 125], .w 7 [123, 126] [], .n 8 [120, 127], .n 9 [128]]; (focus kernel_rfl); (focus (simp [go_sem, h0, h0', h0p, w1, w2, w3, e3]; exact ⟨rfl, rfl⟩)); try dsimp only [thn, inBlk])
    | fail)
  (first | (refine AWP.condT ?_ ?_; (focus (simp [go_sem, h0, h0', h0p, w1, w2, w3, e3]; done))) | (refine AWP.condF ?_ ?_; (focus (simp [go_sem, h0, h0', h0p, w1, w2, w3, e3]; done))))
  (repeat' first
    | refine AWP.seq ?_
    | refine AWP.block ?_
    | (refine AWP.skip ?_; try dsimp only [thn, inBlk])
    | (refine AWP.exit ?_; try simp only [thn, inBlk, if_true, reduceIte, Nat.reduceEqDiff])
    | (refine AWP.ret ?_; try dsimp only [thn, inBlk])
    | (apply AWP.rE; (focus (simp [go_sem, h0, h0', h0p, w1, w2, w3, e3]; exact ⟨rfl, rfl⟩)); try dsimp only [thn, inBlk])
    | (apply AWP.dE hmix [.n 0 [11], .n 1 [10], .n 2 [11], .n 3 [59, 60], .n 4 [0], .n 5 [12], .n 6 [13], .n 7 [62, 63, 64], .w 8 [61, 65] [], .n 9 [58, 66], .n 10 [67]]; (focus kernel_rfl); (focus (simp [go_sem, h0, h0', h0p, w1, w2, w3, e3]; exact ⟨rfl, rfl⟩)); try dsimp only [thn, inBlk])
    | (apply AWP.dE hmix [.n 0 [11], .n 1 [10], .n 2 [11], .n 3 [102, 103], .n 4 [0], .n 5 [12], .n 6 [16], .n 7 [105, 106, 107], .w 8 [104, 108] [], .n 9 [101, 109], .n 10 [110]]; (focus kernel_rfl); (focus (simp [go_sem, h0, h0', h0p, w1, w2, w3, e3]; exact ⟨rfl, rfl⟩)); try dsimp only [thn, inBlk])
    | (apply AWP.dE hmix [.n 0 [11], .n 1 [10], .n 2 [11], .n 3 [121, 122], .n 4 [0], .n 5 [12], .n 6 [124, 125], .w 7 [123, 126] [], .n 8 [120, 127], .n 9 [128]]; (focus kernel_rfl); (focus (simp [go_sem, h0, h0', h0p, w1, w2, w3, e3]; exact ⟨rfl, rfl⟩)); try dsimp only [thn, inBlk])
    | fail)
  generalize (h'.push (.row (List.replicate L (B 0)) 5 1 true false)) = hA at k1 ⊢
  generalize h'.next = nx at k1 ⊢
  refine AWP.cutT [0, 10, 11, 12] (fun s h' => ∃ P1 P2, bs = P1 ++ P2 ∧ P2.count 255 = 0 ∧ s = ⟨132, [(0, .slice va bs.length vc), (10, .slice (some ⟨nx, 0, none⟩) L L), (11, .int .i64 ((esc P1).length : Nat)), (12, .int .i64 (P1.length : Nat))]⟩ ∧
    Own O h' (ob 5 (.slice (some ⟨nx, 0, none⟩) L L) (esc P1 ++ List.replicate P2.length 0) :: R)) ?_ ?_
  · (repeat' first
      | refine AWP.seq ?_
      | refine AWP.block ?_
      | (refine AWP.skip ?_; try dsimp only [thn, inBlk])
      | (refine AWP.exit ?_; try simp only [thn, inBlk, if_true, reduceIte, Nat.reduceEqDiff])
      | (refine AWP.ret ?_; try dsimp only [thn, inBlk])
      | (refine AWP.condT ?_ ?_; (focus (simp [go_sem]; done)))
      | (refine AWP.condF ?_ ?_; (focus (simp [go_sem]; done)))
      | (apply AWP.rE; (focus (simp [go_sem]; exact ⟨rfl, rfl⟩)); try dsimp only [thn, inBlk])
      | (apply AWP.dE hmix [.n 0 [11], .n 1 [10], .n 2 [11], .n 3 [59, 60], .n 4 [0], .n 5 [12], .n 6 [13], .n 7 [62, 63, 64], .w 8 [61, 65] [], .n 9 [58, 66], .n 10 [67]]; (focus kernel_rfl); (focus (simp [go_sem]; exact ⟨rfl, rfl⟩)); try dsimp only [thn, inBlk])
      | (apply AWP.dE hmix [.n 0 [11], .n 1 [10], .n 2 [11], .n 3 [102, 103], .n 4 [0], .n 5 [12], .n 6 [16], .n 7 [105, 106, 107], .w 8 [104, 108] [], .n 9 [101, 109], .n 10 [110]]; (focus kernel_rfl); (focus (simp [go_sem]; exact ⟨rfl, rfl⟩)); try dsimp only [thn, inBlk])
      | (apply AWP.dE hmix [.n 0 [11], .n 1 [10], .n 2 [11], .n 3 [121, 122], .n 4 [0], .n 5 [12], .n 6 [124, 125], .w 7 [123, 126] [], .n 8 [120, 127], .n 9 [128]]; (focus kernel_rfl); (focus (simp [go_sem]; exact ⟨rfl, rfl⟩)); try dsimp only [thn, inBlk])
      | fail)
    refine AWP.loopR [0, 1, 2, 10, 11, 12, 48, 49] (fun r s h' => ∃ j P1 P2, j ≤ m ∧ r = m - j ∧ bs = P1 ++ P2 ∧ P2.count 255 = m - j ∧ s = ⟨132, [(0, .slice va bs.length vc), (1, .slice oa 1 oc), (2, .slice wa 2 wc), (10, .slice (some ⟨nx, 0, none⟩) L L), (11, .int .i64 ((esc P1).length : Nat)), (12, .int .i64 (P1.length : Nat)), (48, .int .i64 (m : Nat)), (49, .int .i64 (j : Nat))]⟩ ∧
      Own O h' (ob 5 (.slice (some ⟨nx, 0, none⟩) L L) (esc P1 ++ List.replicate (P2.length + (m - j)) 0) :: R)) ?_ ?_
    · exact ⟨_, 0, [], bs, by omega, rfl, rfl, by omega, rfl, by rw [Nat.sub_zero, ← hL]; exact k1⟩
    rintro r s hB ⟨j, P1, P2, hj, rfl, hbs, hc, rfl, kB⟩
    have hwl := esc_length P1
    have hlen : bs.length = P1.length + P2.length := by rw [hbs]; simp
    have hcnt : P1.count 255 + P2.count 255 = m := by rw [hmm, hbs, List.count_append]
    by_cases hjm : j < m
    rotate_left
    · obtain rfl : j = m := by omega
      (repeat' first
        | refine AWP.seq ?_
        | refine AWP.block ?_
        | (refine AWP.skip ?_; try dsimp only [thn, inBlk])
        | (refine AWP.exit ?_; try simp only [thn, inBlk, if_true, reduceIte, Nat.reduceEqDiff])
        | (refine AWP.ret ?_; try dsimp only [thn, inBlk])
        | (refine AWP.condT ?_ ?_; (focus (simp [go_sem]; done)))
        | (refine AWP.condF ?_ ?_; (focus (simp [go_sem]; done)))
        | (apply AWP.rE; (focus (simp [go_sem]; exact ⟨rfl, rfl⟩)); try dsimp only [thn, inBlk])
        | (apply AWP.dE hmix [.n 0 [11], .n 1 [10], .n 2 [11], .n 3 [59, 60], .n 4 [0], .n 5 [12], .n 6 [13], .n 7 [62, 63, 64], .w 8 [61, 65] [], .n 9 [58, 66], .n 10 [67]]; (focus kernel_rfl); (focus (simp [go_sem]; exact ⟨rfl, rfl⟩)); try dsimp only [thn, inBlk])
        | (apply AWP.dE hmix [.n 0 [11], .n 1 [10], .n 2 [11], .n 3 [102, 103], .n 4 [0], .n 5 [12], .n 6 [16], .n 7 [105, 106, 107], .w 8 [104, 108] [], .n 9 [101, 109], .n 10 [110]]; (focus kernel_rfl); (focus (simp [go_sem]; exact ⟨rfl, rfl⟩)); try dsimp only [thn, inBlk])
        | (apply AWP.dE hmix [.n 0 [11], .n 1 [10], .n 2 [11], .n 3 [121, 122], .n 4 [0], .n 5 [12], .n 6 [124, 125], .w 7 [123, 126] [], .n 8 [120, 127], .n 9 [128]]; (focus kernel_rfl); (focus (simp [go_sem]; exact ⟨rfl, rfl⟩)); try dsimp only [thn, inBlk])
        | fail)
      refine ⟨P1, P2, hbs, by omega, rfl, ?_⟩
      simpa using kB
    have hjm' : (j : Int) < m := by omega
    obtain ⟨pre, tail, rfl, hp1, hp2⟩ := indexByte_split (bs := P2) (c := 255) (by omega)
    simp only [List.length_append, List.length_cons] at hlen
    have hxs := hx hB kB.tail
    obtain ⟨s1, s2⟩ := hxs.piece (P := Tryd.prog) (t := 22) (e := 5) Tryd.underlying22 tsz5 (lo := P1.length) (hi := bs.length) (by omega) (Nat.le_refl _) (l := some (.int .i64 (P1.length : Nat))) (u := none) (.inr ⟨.i64, rfl⟩) (.inl ⟨rfl, rfl⟩)
    have hd : (bs.take bs.length).drop P1.length = pre ++ 255 :: tail := by rw [List.take_length, hbs]; simp
    rw [hd] at s2
    (repeat' first
      | refine AWP.seq ?_
      | refine AWP.block ?_
      | (refine AWP.skip ?_; try dsimp only [thn, inBlk])
      | (refine AWP.exit ?_; try simp only [thn, inBlk, if_true, reduceIte, Nat.reduceEqDiff])
      | (refine AWP.ret ?_; try dsimp only [thn, inBlk])
      | (refine AWP.condT ?_ ?_; (focus (simp [go_sem, hjm', s1]; done)))
      | (refine AWP.condF ?_ ?_; (focus (simp [go_sem, hjm', s1]; done)))
      | (apply AWP.rE; (focus (simp [go_sem, hjm', s1]; exact ⟨rfl, rfl⟩)); try dsimp only [thn, inBlk])
      | (apply AWP.dE hmix [.n 0 [11], .n 1 [10], .n 2 [11], .n 3 [59, 60], .n 4 [0], .n 5 [12], .n 6 [13], .n 7 [62, 63, 64], .w 8 [61, 65] [], .n 9 [58, 66], .n 10 [67]]; (focus kernel_rfl); (focus (simp [go_sem, hjm', s1]; exact ⟨rfl, rfl⟩)); try dsimp only [thn, inBlk])
      | (apply AWP.dE hmix [.n 0 [11], .n 1 [10], .n 2 [11], .n 3 [102, 103], .n 4 [0], .n 5 [12], .n 6 [16], .n 7 [105, 106, 107], .w 8 [104, 108] [], .n 9 [101, 109], .n 10 [110]]; (focus kernel_rfl); (focus (simp [go_sem, hjm', s1]; exact ⟨rfl, rfl⟩)); try dsimp only [thn, inBlk])
      | (apply AWP.dE hmix [.n 0 [11], .n 1 [10], .n 2 [11], .n 3 [121, 122], .n 4 [0], .n 5 [12], .n 6 [124, 125], .w 7 [123, 126] [], .n 8 [120, 127], .n 9 [128]]; (focus kernel_rfl); (focus (simp [go_sem, hjm', s1]; exact ⟨rfl, rfl⟩)); try dsimp only [thn, inBlk])
      | fail)
    refine AWP.callE (by simp [go_sem, hjm', s1]; exact ⟨rfl, rfl, rfl, rfl, rfl⟩) (by kernel_rfl) ?_
    refine (index_calls (c := 255) s2 (ho _ kB.tail)).mono ?_
    rintro r h'' ⟨rfl, rfl⟩
    rw [hp2]
    obtain ⟨st2, hst2⟩ : ∃ x, x = P1.length + pre.length := ⟨_, rfl⟩
    have w4 : IntKind.i64.wrap ((P1.length : Int) + pre.length) = st2 := by rw [wI64 (by omega) (by omega)]; omega
    have s2' : ∃ y, sliceR Tryd.prog h'' 22 (.slice va bs.length vc) (some (.int .i64 (P1.length : Nat))) (some (.int .i64 (st2 : Nat))) none = some y ∧ Bytes h'' y pre := by
      obtain ⟨s3, s4⟩ := hxs.piece (P := Tryd.prog) (t := 22) (e := 5) Tryd.underlying22 tsz5 (lo := P1.length) (hi := st2) (by omega) (by omega) (l := some (.int .i64 (P1.length : Nat))) (u := some (.int .i64 (st2 : Nat))) (.inr ⟨.i64, rfl⟩) (.inr ⟨.i64, rfl⟩)
      have hd2 : (bs.take st2).drop P1.length = pre := by rw [hbs, hst2, List.take_length_add_append, List.drop_left]; simp
      rw [hd2] at s4
      exact ⟨_, s3, s4⟩
    obtain ⟨y, s3, s4⟩ := s2'
    obtain ⟨y1, h1, s5, s6, k5⟩ := kB.cpyAt (P := Tryd.prog) (t := 22) Tryd.underlying22 tsz5 (by simp; omega) s4
    obtain ⟨y2, h2, s7, s8, k6⟩ := k5.cpyAt (P := Tryd.prog) (t := 22) Tryd.underlying22 tsz5 (by simp; omega) (hw _ k5.tail)
    obtain ⟨W1, hW1⟩ : ∃ x, x = (esc P1).length + pre.length := ⟨_, rfl⟩
    obtain ⟨W2, hW2⟩ : ∃ x, x = W1 + 2 := ⟨_, rfl⟩
    obtain ⟨st3, hst3⟩ : ∃ x, x = st2 + 1 := ⟨_, rfl⟩
    have w5 : IntKind.i64.wrap (((esc P1).length : Int) + pre.length) = W1 := by rw [wI64 (by omega) (by omega)]; omega
    have w6 : IntKind.i64.wrap ((W1 : Int) + 2) = W2 := by rw [wI64 (by omega) (by omega)]; omega
    have w7 : IntKind.i64.wrap ((st2 : Int) + 1) = st3 := by rw [wI64 (by omega) (by omega)]; omega
    have w8 : IntKind.i64.wrap ((j : Int) + 1) = ((j + 1 : Nat) : Int) := by rw [wI64 (by omega) (by omega)]; omega
    have e7 : (esc P1 ++ pre).length = W1 := by simp; omega
    rw [e7] at s7
    have s8' : copyW Tryd.prog h1 22 y2 (.slice wa 2 wc) = some (.int .i64 2, h2) := s8
    refine awpL_restE (by simp [go_sem, w4]; exact ⟨rfl, rfl⟩) ?_; try dsimp only [thn, inBlk]
    (repeat' first
      | refine AWP.seq ?_
      | refine AWP.block ?_
      | (refine AWP.skip ?_; try dsimp only [thn, inBlk])
      | (refine AWP.exit ?_; try simp only [thn, inBlk, if_true, reduceIte, Nat.reduceEqDiff])
      | (refine AWP.ret ?_; try dsimp only [thn, inBlk])
      | (refine AWP.condT ?_ ?_; (focus (simp [go_sem, w4, s3, s5, s6, w5, s7, s8', w6, w7, w8]; done)))
      | (refine AWP.condF ?_ ?_; (focus (simp [go_sem, w4, s3, s5, s6, w5, s7, s8', w6, w7, w8]; done)))
      | (apply AWP.rE; (focus (simp [go_sem, w4, s3, s5, s6, w5, s7, s8', w6, w7, w8]; exact ⟨rfl, rfl⟩)); try dsimp only [thn, inBlk])
      | (apply AWP.dE hmix [.n 0 [11], .n 1 [10], .n 2 [11], .n 3 [59, 60], .n 4 [0], .n 5 [12], .n 6 [13], .n 7 [62, 63, 64], .w 8 [61, 65] [], .n 9 [58, 66], .n 10 [67]]; (focus kernel_rfl); (focus (simp [go_sem, w4, s3, s5, s6, w5, s7, s8', w6, w7, w8]; exact ⟨rfl, rfl⟩)); try dsimp only [thn, inBlk])
      | (apply AWP.dE hmix [.n 0 [11], .n 1 [10], .n 2 [11], .n 3 [102, 103], .n 4 [0], .n 5 [12], .n 6 [16], .n 7 [105, 106, 107], .w 8 [104, 108] [], .n 9 [101, 109], .n 10 [110]]; (focus kernel_rfl); (focus (simp [go_sem, w4, s3, s5, s6, w5, s7, s8', w6, w7, w8]; exact ⟨rfl, rfl⟩)); try dsimp only [thn, inBlk])
      | (apply AWP.dE hmix [.n 0 [11], .n 1 [10], .n 2 [11], .n 3 [121, 122], .n 4 [0], .n 5 [12], .n 6 [124, 125], .w 7 [123, 126] [], .n 8 [120, 127], .n 9 [128]]; (focus kernel_rfl); (focus (simp [go_sem, w4, s3, s5, s6, w5, s7, s8', w6, w7, w8]; exact ⟨rfl, rfl⟩)); try dsimp only [thn, inBlk])
      | fail)
    have e8 : esc (P1 ++ pre ++ [255]) = esc P1 ++ pre ++ [255, 255] := by rw [esc_append, esc_append, esc_none hp1]; rfl
    refine ⟨m - (j + 1), by omega, j + 1, P1 ++ pre ++ [255], tail, by omega, rfl, by rw [hbs]; simp, ?_, ?_, ?_⟩
    · rw [List.count_append, List.count_cons_self, List.count_eq_zero.2 hp1] at hc; omega
    · rw [e8]
      have g1 : (esc P1 ++ pre ++ [255, 255]).length = W2 := by simp; omega
      have g2 : (P1 ++ pre ++ [255]).length = st3 := by simp; omega
      rw [g1, g2]; rfl
    · rw [e8]
      rw [List.drop_replicate, List.drop_replicate] at k6
      have g3 : (pre ++ 255 :: tail).length + (m - j) - pre.length - [(255 : UInt8), 255].length = tail.length + (m - (j + 1)) := by simp; omega
      rw [g3] at k6
      exact k6
  · rintro s hB ⟨P1, P2, hbs, hc, rfl, kB⟩
    have hlen : bs.length = P1.length + P2.length := by rw [hbs]; simp
    have hxs := hx hB kB.tail
    have s2' : ∃ y, sliceR Tryd.prog hB 22 (.slice va bs.length vc) (some (.int .i64 (P1.length : Nat))) none none = some y ∧ Bytes hB y P2 := by
      obtain ⟨s3, s4⟩ := hxs.piece (P := Tryd.prog) (t := 22) (e := 5) Tryd.underlying22 tsz5 (lo := P1.length) (hi := bs.length) (by omega) (Nat.le_refl _) (l := some (.int .i64 (P1.length : Nat))) (u := none) (.inr ⟨.i64, rfl⟩) (.inl ⟨rfl, rfl⟩)
      have hd2 : (bs.take bs.length).drop P1.length = P2 := by rw [List.take_length, hbs]; simp
      rw [hd2] at s4
      exact ⟨_, s3, s4⟩
    obtain ⟨y, s3, s4⟩ := s2'
    obtain ⟨y1, h1, s5, s6, k5⟩ := kB.cpyAt (P := Tryd.prog) (t := 22) Tryd.underlying22 tsz5 (by simp) s4
    have e9 : esc bs = esc P1 ++ P2 := by rw [hbs, esc_append, esc_none (List.count_eq_zero.1 hc)]
    have hEL := esc_length bs
    have e10 : (esc P1).length + P2.length = L := by rw [e9, List.length_append, ← hmm] at hEL; omega
    have w5 : IntKind.i64.wrap (((esc P1).length : Int) + P2.length) = L := by rw [wI64 (by omega) (by omega)]; omega
    have hfin : esc P1 ++ P2 ++ (List.replicate P2.length 0).drop P2.length = esc bs := by rw [e9]; simp
    rw [hfin] at k5
    have hLe : (esc bs).length = L := by rw [e9, List.length_append]; exact e10
    obtain ⟨y4, s9, k7⟩ := k5.ob_slice (P := Tryd.prog) (t := 22) (e := 5) Tryd.underlying22 tsz5 (lo := 0) (hi := (esc bs).length) (by omega) (Nat.le_refl _) (l := some (.int .i64 0)) (u := some (.int .i64 (L : Nat))) (.inr ⟨.i64, rfl⟩) (.inr ⟨.i64, by rw [hLe]⟩)
    obtain ⟨a5, c5', rfl⟩ := k7.os_val
    rw [List.take_length, List.drop_zero] at k7 s9
    (repeat' first
      | refine AWP.seq ?_
      | refine AWP.block ?_
      | (refine AWP.skip ?_; try dsimp only [thn, inBlk])
      | (refine AWP.exit ?_; try simp only [thn, inBlk, if_true, reduceIte, Nat.reduceEqDiff])
      | (refine AWP.ret ?_; try dsimp only [thn, inBlk])
      | (refine AWP.condT ?_ ?_; (focus (simp [go_sem, s3, s5, s6, w5, s9]; done)))
      | (refine AWP.condF ?_ ?_; (focus (simp [go_sem, s3, s5, s6, w5, s9]; done)))
      | (apply AWP.rE; (focus (simp [go_sem, s3, s5, s6, w5, s9]; exact ⟨rfl, rfl⟩)); try dsimp only [thn, inBlk])
      | (apply AWP.dE hmix [.n 0 [11], .n 1 [10], .n 2 [11], .n 3 [59, 60], .n 4 [0], .n 5 [12], .n 6 [13], .n 7 [62, 63, 64], .w 8 [61, 65] [], .n 9 [58, 66], .n 10 [67]]; (focus kernel_rfl); (focus (simp [go_sem, s3, s5, s6, w5, s9]; exact ⟨rfl, rfl⟩)); try dsimp only [thn, inBlk])
      | (apply AWP.dE hmix [.n 0 [11], .n 1 [10], .n 2 [11], .n 3 [102, 103], .n 4 [0], .n 5 [12], .n 6 [16], .n 7 [105, 106, 107], .w 8 [104, 108] [], .n 9 [101, 109], .n 10 [110]]; (focus kernel_rfl); (focus (simp [go_sem, s3, s5, s6, w5, s9]; exact ⟨rfl, rfl⟩)); try dsimp only [thn, inBlk])
      | (apply AWP.dE hmix [.n 0 [11], .n 1 [10], .n 2 [11], .n 3 [121, 122], .n 4 [0], .n 5 [12], .n 6 [124, 125], .w 7 [123, 126] [], .n 8 [120, 127], .n 9 [128]]; (focus kernel_rfl); (focus (simp [go_sem, s3, s5, s6, w5, s9]; exact ⟨rfl, rfl⟩)); try dsimp only [thn, inBlk])
      | fail)
    simp [bodyQ, thn, inBlk, resA, resV, go_sem]
    exact ⟨_, _, ⟨rfl, rfl⟩, k7⟩
end L22
