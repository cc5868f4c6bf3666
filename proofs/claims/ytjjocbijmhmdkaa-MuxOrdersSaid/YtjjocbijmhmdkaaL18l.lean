import Derived.Test.YtjjocbijmhmdkaaL18k
import Derived.Test.YtjjocbijmhmdkaaAbLibF
open Go Ab Go.Proofs
namespace L18
set_option autoImplicit false
set_option linter.unusedSimpArgs false
set_option linter.unusedVariables false
attribute [local irreducible] mcells

/-! ### Steps that come in -/
structure Oh where
  kind : Int
  side : Int
  chan : Int
  size : Int
  fch : Int
def preO (o : Oh) : List Value := [.int .i64 o.kind, .int .i64 o.side, .int .i64 o.chan, .int .i64 o.size, .int .i64 o.fch]
abbrev Op := Oh × List UInt8
abbrev orow (o : Op) (a : Option Addr) (cap : Nat) : List Value := [.int .i64 o.1.kind, .int .i64 o.1.side, .int .i64 o.1.chan, .int .i64 o.1.size, .int .i64 o.1.fch, .slice a o.2.length cap]
def I64 (a : Int) : Prop := -9223372036854775808 ≤ a ∧ a ≤ 9223372036854775807
structure Oh.Wf (o : Oh) : Prop where
  kind : I64 o.kind
  side : I64 o.side
  chan : I64 o.chan
  size : I64 o.size
  fch : I64 o.fch

theorem flat_B : ∀ bs : List UInt8, (bs.map fun c : UInt8 => [B c]).flatten = bs.map B
  | [] => rfl
  | c :: bs => by simp [flat_B bs]
theorem bytes_of {h : AHeap} {d : Dt} {v : Value} (q : Has Try.prog h d 28 [v]) : ∃ bs : List UInt8, Bytes h v bs := by
  obtain ⟨v', rs, e, h1, h2, h3⟩ := q.sl_inv Try.underlying28
  cases e
  have c5 : Try.prog.cellsOf 5 = 1 := by kernel_rfl
  rw [c5] at h2
  obtain ⟨bs, rfl, _⟩ := map_of (f := fun c : UInt8 => [B c]) (p := fun _ => True) (rs := rs) fun r hr => by
    obtain ⟨_, d, hd⟩ := h3 r hr
    obtain ⟨n, e, w⟩ := hd.int_inv Try.underlying5
    refine ⟨UInt8.ofNat n.toNat, ?_, trivial⟩
    simp [Lit.wf, IntKind.min, IntKind.max, IntKind.signed, IntKind.bits] at w
    rw [e, B]
    congr 2
    simp [UInt8.toNat_ofNat]; omega
  refine ⟨bs, ?_⟩
  rw [flat_B, List.length_map] at h2
  rcases h2 with ⟨rfl, h, e⟩ | ⟨i, off, cap, c, e, sz, ti, ro, rfl, q1, q2, q3, q4, q5, q6⟩
  · exact .inl ⟨rfl, List.length_eq_zero_iff.1 h⟩
  · exact .inr ⟨i, off, cap, c, e, sz, ti, ro, rfl, q1, q2, q3, q4, by omega, by simpa using q6⟩
theorem i64_of {h : AHeap} {d : Dt} {cs : List Value} (q : Has Try.prog h d 3 cs) : ∃ n, cs = [.int .i64 n] ∧ I64 n := by
  obtain ⟨n, e, w⟩ := q.int_inv Try.underlying3
  simp [Lit.wf, IntKind.min, IntKind.max, IntKind.signed, IntKind.bits] at w
  exact ⟨n, e, by unfold I64; omega⟩
theorem op_of {h : AHeap} {d : Dt} {cs : List Value} (q : Has Try.prog h d 32 cs) : ∃ (o : Op) (a : Option Addr) (cap : Nat), cs = orow o a cap ∧ o.1.Wf ∧ Bytes h (.slice a o.2.length cap) o.2 := by
  have c32 : Try.prog.cellsOf 32 = 6 := by kernel_rfl
  have c30 : Try.prog.cellsOf 30 = 2 := by kernel_rfl
  have c3 : Try.prog.cellsOf 3 = 1 := by kernel_rfl
  have c28 : Try.prog.cellsOf 28 = 1 := by kernel_rfl
  obtain ⟨hl, hf⟩ := q.struct_at Try.underlying32
  rw [c32] at hl
  obtain ⟨d0, q0⟩ := hf 0 3 0 1 rfl c3
  obtain ⟨d1, q1⟩ := hf 1 3 1 1 rfl c3
  obtain ⟨d2, q2⟩ := hf 2 3 2 1 rfl c3
  obtain ⟨d3, q3⟩ := hf 3 3 3 1 rfl c3
  obtain ⟨d4, q4⟩ := hf 4 30 4 2 rfl c30
  obtain ⟨hl4, hf4⟩ := q4.struct_at Try.underlying30
  obtain ⟨d5, q5⟩ := hf4 0 3 0 1 rfl c3
  obtain ⟨d6, q6⟩ := hf4 1 28 1 1 rfl c28
  obtain ⟨n0, e0, w0⟩ := i64_of q0
  obtain ⟨n1, e1, w1⟩ := i64_of q1
  obtain ⟨n2, e2, w2⟩ := i64_of q2
  obtain ⟨n3, e3, w3⟩ := i64_of q3
  obtain ⟨n5, e5, w5⟩ := i64_of q5
  match cs, hl with
  | [x0, x1, x2, x3, x4, x5], _ =>
    simp at e0 e1 e2 e3 e5 q6
    obtain ⟨bs, hb⟩ := bytes_of q6
    obtain ⟨a, cap, rfl⟩ := hb.val
    exact ⟨(⟨n0, n1, n2, n3, n5⟩, bs), a, cap, by rw [e0, e1, e2, e3, e5], ⟨w0, w1, w2, w3, w5⟩, hb⟩
theorem ops_of {h : AHeap} {d : Dt} {v : Value} (q : Has Try.prog h d 22 [v]) : ∃ l : List Op, l.length ≤ 9223372036854775807 ∧ BR preO 6 h v l ∧ ∀ o ∈ l, o.1.Wf := by
  have c32 : Try.prog.cellsOf 32 = 6 := by kernel_rfl
  obtain ⟨v', rs, e, h1, h2, h3⟩ := q.sl_inv Try.underlying22
  cases e
  obtain ⟨l, rfl, hl⟩ := map_of (f := fun q : Op × (Option Addr × Nat) => orow q.1 q.2.1 q.2.2) (p := fun q => q.1.1.Wf ∧ Bytes h (.slice q.2.1 q.1.2.length q.2.2) q.1.2) (rs := rs) fun r hr => by
    obtain ⟨_, d, hd⟩ := h3 r hr
    obtain ⟨o, a, cap, e, w, b⟩ := op_of hd
    exact ⟨(o, (a, cap)), e, w, b⟩
  rw [c32] at h2
  rw [List.length_map] at h1 h2
  have er : rcells preO (l.map (·.1)) (l.map (·.2)) = l.map fun q : Op × (Option Addr × Nat) => orow q.1 q.2.1 q.2.2 := by
    simp only [rcells, List.zipWith_map]
    apply List.ext_getElem?
    intro m
    rw [List.getElem?_zipWith, List.getElem?_map]
    cases l[m]? <;> rfl
  refine ⟨l.map (·.1), by simpa using h1, ⟨l.map (·.2), by simp, by rw [er, List.length_map]; exact h2, fun j f p hf hp => ?_⟩, fun o ho => ?_⟩
  · rw [List.getElem?_map, Option.map_eq_some_iff] at hf hp
    obtain ⟨x, hx, rfl⟩ := hf
    obtain ⟨y, hy, rfl⟩ := hp
    rw [hx] at hy
    cases hy
    exact (hl x (List.mem_of_getElem? hx)).2
  · obtain ⟨x, hx, rfl⟩ := List.mem_map.1 ho
    exact (hl x hx).1
theorem op_at {h : AHeap} {v : Value} {l : List Op} (k : BR preO 6 h v l) {j : Nat} (hj : j < l.length) {kd : IntKind} :
    ∃ i off c e' sz' ti ro a cap, indexAddrP Try.prog 22 v (.int kd j) = some (.pointer (some ⟨i, off, none⟩)) ∧ h.obj i = some (.row c e' sz' ti ro) ∧ off + 6 ≤ c.length ∧ (c.drop off).take 6 = orow l[j] a cap ∧ Bytes h (.slice a l[j].2.length cap) l[j].2 := by
  obtain ⟨i, off, c, e', sz', ti, ro, a, cap, h1, h2, h3, h4, _, h6⟩ := k.at (P := Try.prog) (fun _ => rfl) Try.underlying22 tsz32 hj (kd := kd)
  exact ⟨i, off, c, e', sz', ti, ro, a, cap, h1, h2, h3, by rw [h4]; rfl, h6⟩

/-! ### Bytes that follow each other; how many -/
def txt (n fr : Nat) : List UInt8 := (List.range n).map fun i => UInt8.ofNat (fr + i)
theorem txt_len (n fr : Nat) : (txt n fr).length = n := by simp [txt]
theorem txt_succ (n fr : Nat) : txt (n + 1) fr = txt n fr ++ [UInt8.ofNat (fr + n)] := by simp [txt, List.range_succ]
theorem text_calls {O : Old} {h : AHeap} {R : List Chunk} (k : Own O h R) {n fr : Nat} (hn : n ≤ 100000) (hf : fr ≤ 100000) :
    ACalls Try.prog 11 #[.int .i64 n, .int .i64 fr] h fun r h' => ∃ a cap, r = .slice a n cap ∧ Own O h' (ob 5 (.slice a n cap) (txt n fr) :: R) := by
  refine ACalls.of_awp (args := [.int .i64 n, .int .i64 fr]) (n := 21) Try.func11 rfl rfl (by show 2 ≤ 21; omega) ?_
  have k1 : Own O _ (ob 5 (.slice (some ⟨h.next, 0, none⟩) 0 0) [] :: R) := (k.push (.row [] 5 1 true false)).row_any (n := 0) rfl
  (repeat' first
    | refine AWP.seq ?_
    | refine AWP.block ?_
    | (refine AWP.skip ?_; try dsimp only [thn, inBlk])
    | (refine AWP.exit ?_; try simp only [thn, inBlk, if_true, reduceIte, Nat.reduceEqDiff])
    | (refine AWP.ret ?_; try dsimp only [thn, inBlk])
    | (refine AWP.condT ?_ ?_; (focus (simp [go_sem]; done)))
    | (refine AWP.condF ?_ ?_; (focus (simp [go_sem]; done)))
    | (apply AWP.rE; (focus (simp [go_sem]; exact ⟨rfl, rfl⟩)); try dsimp only [thn, inBlk])
    | fail)
  refine AWP.loopR [0, 1, 5, 6] (fun m s h' => ∃ j a cap, j ≤ n ∧ m = n - j ∧ s = ⟨21, [(0, .int .i64 n), (1, .int .i64 fr), (5, .slice a j cap), (6, .int .i64 (j : Nat))]⟩ ∧ Own O h' (ob 5 (.slice a j cap) (txt j fr) :: R)) ?_ ?_
  · exact ⟨_, 0, _, _, by omega, rfl, by simp [go_sem]; exact ⟨rfl, rfl⟩, by exact k1⟩
  rintro m s h' ⟨j, a, cap, hj, rfl, rfl, kt⟩
  by_cases hj2 : j < n
  rotate_left
  · have hj3 : ¬ (j : Int) < n := by omega
    obtain rfl : j = n := by omega
    (repeat' first
      | refine AWP.seq ?_
      | refine AWP.block ?_
      | (refine AWP.skip ?_; try dsimp only [thn, inBlk])
      | (refine AWP.exit ?_; try simp only [thn, inBlk, if_true, reduceIte, Nat.reduceEqDiff])
      | (refine AWP.ret ?_; try dsimp only [thn, inBlk])
      | (refine AWP.condT ?_ ?_; (focus (simp [go_sem, hj3]; done)))
      | (refine AWP.condF ?_ ?_; (focus (simp [go_sem, hj3]; done)))
      | (apply AWP.rE; (focus (simp [go_sem, hj3]; exact ⟨rfl, rfl⟩)); try dsimp only [thn, inBlk])
      | fail)
    simp [bodyQ, thn, inBlk, resA, resV, go_sem]
    exact ⟨a, cap, ⟨rfl, rfl⟩, kt⟩
  have hj3 : (j : Int) < n := by omega
  obtain ⟨j1, hj1⟩ : ∃ j1, j1 = j + 1 := ⟨_, rfl⟩
  have wj : IntKind.i64.wrap ((j : Int) + 1) = (j1 : Int) := by rw [wI64 (by omega) (by omega)]; omega
  have wf : IntKind.i64.wrap ((fr : Int) + (j : Int)) = ((fr + j : Nat) : Int) := by rw [wI64 (by omega) (by omega)]; omega
  obtain ⟨q, hq⟩ : ∃ q, q = fr + j := ⟨_, rfl⟩
  have wb : IntKind.u8.wrap (q : Int) = ((UInt8.ofNat q).toNat : Nat) := by simp [IntKind.wrap, IntKind.bits, IntKind.signed, UInt8.toNat_ofNat]
  rw [← hq] at wf
  obtain ⟨c, hc⟩ : ∃ c, c = UInt8.ofNat q := ⟨_, rfl⟩
  rw [← hc] at wb
  obtain ⟨na, nc, h7, e7, k7⟩ := kt.appB1 (P := Try.prog) (t := 28) (xt := 28) (c := c) (i := h'.next) Try.underlying28 tsz5 tby5 tz5 nI28 rfl (by rw [txt_len]; omega)
  rw [txt_len, ← hj1] at e7 k7
  (repeat' first
    | refine AWP.seq ?_
    | refine AWP.block ?_
    | (refine AWP.skip ?_; try dsimp only [thn, inBlk])
    | (refine AWP.exit ?_; try simp only [thn, inBlk, if_true, reduceIte, Nat.reduceEqDiff])
    | (refine AWP.ret ?_; try dsimp only [thn, inBlk])
    | (refine AWP.condT ?_ ?_; (focus (simp [go_sem, hj3, wj, wf, wb, e7]; done)))
    | (refine AWP.condF ?_ ?_; (focus (simp [go_sem, hj3, wj, wf, wb, e7]; done)))
    | (apply AWP.rE; (focus (simp [go_sem, hj3, wj, wf, wb, e7]; exact ⟨rfl, rfl⟩)); try dsimp only [thn, inBlk])
    | fail)
  refine ⟨n - j1, by omega, j1, na, nc, by omega, rfl, by simp [go_sem], ?_⟩
  rw [hj1, txt_succ, ← hq, ← hc, ← hj1]; exact k7
end L18
