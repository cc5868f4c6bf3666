import Derived.Test.YtaieafdiomknoaaDoorL22l
import Derived.Test.YtaieafdiomknoaaDoorAbLibF
open Go Ab Go.Proofs
namespace L22
set_option autoImplicit false
set_option linter.unusedSimpArgs false
set_option linter.unusedVariables false

/-! ### A part that comes in -/
def I64 (n : Int) : Prop := -9223372036854775808 ≤ n ∧ n ≤ 9223372036854775807
theorem flat_B : ∀ bs : List UInt8, (bs.map fun c : UInt8 => [B c]).flatten = bs.map B
  | [] => rfl
  | c :: bs => by simp [flat_B bs]
theorem bytes_of {h : AHeap} {d : Dt} {v : Value} (q : Has Tryd.prog h d 22 [v]) : ∃ bs : List UInt8, Bytes h v bs := by
  obtain ⟨v', rs, e, h1, h2, h3⟩ := q.sl_inv Tryd.underlying22
  cases e
  have c5 : Tryd.prog.cellsOf 5 = 1 := by kernel_rfl
  rw [c5] at h2
  obtain ⟨bs, rfl, _⟩ := map_of (f := fun c : UInt8 => [B c]) (p := fun _ => True) (rs := rs) fun r hr => by
    obtain ⟨_, d, hd⟩ := h3 r hr
    obtain ⟨n, e, w⟩ := hd.int_inv Tryd.underlying5
    refine ⟨UInt8.ofNat n.toNat, ?_, trivial⟩
    simp [Lit.wf, IntKind.min, IntKind.max, IntKind.signed, IntKind.bits] at w
    rw [e, B]
    congr 2
    simp [UInt8.toNat_ofNat]; omega
  refine ⟨bs, ?_⟩
  rw [flat_B, List.length_map] at h2
  rcases h2 with ⟨rfl, h, e⟩ | ⟨i, off, cap, c, e, sz, ti, ro, rfl, q1, q2, q3, q4, q5, q6⟩
  · exact .inl ⟨rfl, List.length_eq_zero_iff.1 h⟩
  · exact .inr ⟨i, off, cap, c, e, sz, ti, ro, rfl, q1, q2, q3, q4, by omega, by simpa using q6⟩
theorem i64_of {h : AHeap} {d : Dt} {cs : List Value} (q : Has Tryd.prog h d 3 cs) : ∃ n, cs = [.int .i64 n] ∧ I64 n := by
  obtain ⟨n, e, w⟩ := q.int_inv Tryd.underlying3
  simp [Lit.wf, IntKind.min, IntKind.max, IntKind.signed, IntKind.bits] at w
  exact ⟨n, e, by unfold I64; omega⟩
theorem tel_of {h : AHeap} {d : Dt} {cs : List Value} (q : Has Tryd.prog h d 24 cs) : ∃ (k v o : Int) (a : Option Addr) (cap : Nat) (bs : List UInt8), cs = telc k v o (.slice a bs.length cap) ∧ Bytes h (.slice a bs.length cap) bs := by
  have c24 : Tryd.prog.cellsOf 24 = 4 := by kernel_rfl
  have c3 : Tryd.prog.cellsOf 3 = 1 := by kernel_rfl
  have c22 : Tryd.prog.cellsOf 22 = 1 := by kernel_rfl
  obtain ⟨hl, hf⟩ := q.struct_at Tryd.underlying24
  rw [c24] at hl
  obtain ⟨d0, q0⟩ := hf 0 3 0 1 rfl c3
  obtain ⟨d1, q1⟩ := hf 1 3 1 1 rfl c3
  obtain ⟨d2, q2⟩ := hf 2 3 2 1 rfl c3
  obtain ⟨d3, q3⟩ := hf 3 22 3 1 rfl c22
  obtain ⟨n0, e0, w0⟩ := i64_of q0
  obtain ⟨n1, e1, w1⟩ := i64_of q1
  obtain ⟨n2, e2, w2⟩ := i64_of q2
  match cs, hl with
  | [x0, x1, x2, x3], _ =>
    simp at e0 e1 e2 q3
    obtain ⟨bs, hb⟩ := bytes_of q3
    obtain ⟨a, cap, rfl⟩ := hb.val
    exact ⟨n0, n1, n2, a, cap, bs, by rw [e0, e1, e2], hb⟩
end L22
