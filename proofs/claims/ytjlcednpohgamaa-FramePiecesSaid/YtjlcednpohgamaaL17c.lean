import Derived.Test.YtjlcednpohgamaaL17b
open Go Ab Go.Proofs
namespace L17
set_option autoImplicit false
set_option linter.unusedSimpArgs false
set_option linter.unusedVariables false

/-- What Write gives: the bytes, and the error. -/
def wr (f : Fr) : List UInt8 × Int :=
  if f.1 < 0 ∨ 4 < f.1 then ([], 100) else if 512 < f.2.length then ([], 23) else
    (UInt8.ofNat f.1.toNat :: UInt8.ofNat (f.2.length / 256) :: UInt8.ofNat (f.2.length % 256) :: f.2, 0)

set_option maxHeartbeats 2000000 in
theorem write_calls {O : Old} {h : AHeap} {R : List Chunk} {f : Fr} {a : Option Addr} {cap : Nat} (k : Own O h R) (hx : ∀ h, Own O h R → Bytes h (.slice a f.2.length cap) f.2) (hm : f.2.length ≤ 1000000000) :
    ACalls Try.prog 13 #[.agg #[.int .i64 f.1, .slice a f.2.length cap]] h fun v h' => ∃ a2 c2, v = .tuple #[.slice a2 (wr f).1.length c2, .int .i64 (wr f).2] ∧ Own O h' (ob 5 (.slice a2 (wr f).1.length c2) (wr f).1 :: R) := by
  obtain ⟨c, bs⟩ := f
  change ∀ h, Own O h R → Bytes h (.slice a bs.length cap) bs at hx
  change bs.length ≤ 1000000000 at hm
  have k1 := k.push (.row [.int .i64 c, .slice a bs.length cap] 36 2 true false)
  have c1 := k1.obj
  refine ACalls.of_awp (args := [.agg #[.int .i64 c, .slice a bs.length cap]]) (n := 32) Try.func13 rfl rfl (by show 1 ≤ 32; omega) ?_
  by_cases hc0 : c < 0
  · have e : wr (c, bs) = ([], 100) := by simp [wr, hc0]
    rw [e]
    (repeat' first
      | refine AWP.seq ?_
      | refine AWP.block ?_
      | (refine AWP.skip ?_; try dsimp only [thn, inBlk])
      | (refine AWP.exit ?_; try simp only [thn, inBlk, if_true])
      | (refine AWP.ret ?_; try dsimp only [thn, inBlk])
      | (refine AWP.condT ?_ ?_; (focus (simp [go_sem, c1, hc0]; done)))
      | (refine AWP.condF ?_ ?_; (focus (simp [go_sem, c1, hc0]; done)))
      | (apply AWP.rE; (focus (simp [go_sem, c1, hc0]; exact ⟨rfl, rfl⟩)); try dsimp only [thn, inBlk])
      | fail)
    simp [bodyQ, thn, inBlk, resA, resV, go_sem]
    exact ⟨_, _, ⟨rfl, rfl⟩, k1.tail.nil 5 1⟩
  by_cases hc4 : 4 < c
  · have e : wr (c, bs) = ([], 100) := by simp [wr, hc4]
    rw [e]
    (repeat' first
      | refine AWP.seq ?_
      | refine AWP.block ?_
      | (refine AWP.skip ?_; try dsimp only [thn, inBlk])
      | (refine AWP.exit ?_; try simp only [thn, inBlk, if_true])
      | (refine AWP.ret ?_; try dsimp only [thn, inBlk])
      | (refine AWP.condT ?_ ?_; (focus (simp [go_sem, c1, hc0, hc4]; done)))
      | (refine AWP.condF ?_ ?_; (focus (simp [go_sem, c1, hc0, hc4]; done)))
      | (apply AWP.rE; (focus (simp [go_sem, c1, hc0, hc4]; exact ⟨rfl, rfl⟩)); try dsimp only [thn, inBlk])
      | fail)
    simp [bodyQ, thn, inBlk, resA, resV, go_sem]
    exact ⟨_, _, ⟨rfl, rfl⟩, k1.tail.nil 5 1⟩
  by_cases hl : 512 < bs.length
  · have hl' : (512 : Int) < bs.length := by omega
    have e : wr (c, bs) = ([], 23) := by simp [wr, hc0, hc4, hl]
    rw [e]
    (repeat' first
      | refine AWP.seq ?_
      | refine AWP.block ?_
      | (refine AWP.skip ?_; try dsimp only [thn, inBlk])
      | (refine AWP.exit ?_; try simp only [thn, inBlk, if_true])
      | (refine AWP.ret ?_; try dsimp only [thn, inBlk])
      | (refine AWP.condT ?_ ?_; (focus (simp [go_sem, c1, hc0, hc4, hl']; done)))
      | (refine AWP.condF ?_ ?_; (focus (simp [go_sem, c1, hc0, hc4, hl']; done)))
      | (apply AWP.rE; (focus (simp [go_sem, c1, hc0, hc4, hl']; exact ⟨rfl, rfl⟩)); try dsimp only [thn, inBlk])
      | fail)
    simp [bodyQ, thn, inBlk, resA, resV, go_sem]
    exact ⟨_, _, ⟨rfl, rfl⟩, k1.tail.nil 5 1⟩
  have hl' : ¬ (512 : Int) < bs.length := by omega
  have e : wr (c, bs) = (UInt8.ofNat c.toNat :: UInt8.ofNat (bs.length / 256) :: UInt8.ofNat (bs.length % 256) :: bs, 0) := by simp [wr, hc0, hc4, hl]
  rw [e]
  generalize hL : bs.length = L at *
  obtain ⟨m, hm⟩ : ∃ m, m = L / 256 := ⟨_, rfl⟩
  have w1 : IntKind.u8.wrap c = ((UInt8.ofNat c.toNat).toNat : Nat) := by rw [wU8 (by omega) (by omega)]; simp [UInt8.toNat_ofNat]; omega
  have w2 : IntKind.i64.wrap (m : Int) = m := wI64 (by omega) (by omega)
  have w3 : IntKind.u8.wrap (m : Int) = ((UInt8.ofNat m).toNat : Nat) := by rw [wU8 (by omega) (by omega)]; simp [UInt8.toNat_ofNat]; omega
  have w4 : IntKind.u8.wrap (L : Int) = ((UInt8.ofNat (L % 256)).toNat : Nat) := by simp [IntKind.wrap, IntKind.bits, IntKind.signed, UInt8.toNat_ofNat]
  have w5 : (L : Int).fdiv 256 = m := by rw [hm]; rw [Int.fdiv_eq_ediv_of_nonneg _ (by omega)]; rfl
  obtain ⟨x1, hx1⟩ : ∃ x, x = UInt8.ofNat c.toNat := ⟨_, rfl⟩
  obtain ⟨x2, hx2⟩ : ∃ x, x = UInt8.ofNat m := ⟨_, rfl⟩
  obtain ⟨x3, hx3⟩ : ∃ x, x = UInt8.ofNat (L % 256) := ⟨_, rfl⟩
  rw [← hx1] at w1
  rw [← hx2] at w3
  rw [← hx3] at w4
  rw [← hm, ← hx1, ← hx2, ← hx3]
  have c2 := (k1.push (.row [.int .u8 x1.toNat, .int .u8 x2.toNat, .int .u8 x3.toNat] 5 1 true false)).b1.obj
  have k2 := k1.tail.push (.row [.int .u8 x1.toNat, .int .u8 x2.toNat, .int .u8 x3.toNat] 5 1 true false)
  have k3 : Own O _ (ob 5 (.slice (some ⟨h.next + 1, 0, none⟩) 3 3) [x1, x2, x3] :: R) := k2.row_any (n := 3) rfl
  obtain ⟨a3, c3, h3, e3, k4⟩ := k3.appB (P := Try.prog) (t := 26) (xt := 26) Try.underlying26 tsz5 tby5 tz5 nI26 (hx _ k3.tail).src (by simp; omega)
  simp only [hL, List.length_cons, List.length_nil] at e3 k4
  have e4 : ([x1, x2, x3] ++ bs).length = 0 + 1 + 1 + 1 + L := by simp; omega
  (repeat' first
    | refine AWP.seq ?_
    | refine AWP.block ?_
    | (refine AWP.skip ?_; try dsimp only [thn, inBlk])
    | (refine AWP.exit ?_; try simp only [thn, inBlk, if_true])
    | (refine AWP.ret ?_; try dsimp only [thn, inBlk])
    | (refine AWP.condT ?_ ?_; (focus (simp [go_sem, c1, hc0, hc4, hl', w1, w2, w3, w4, w5, c2, e3]; done)))
    | (refine AWP.condF ?_ ?_; (focus (simp [go_sem, c1, hc0, hc4, hl', w1, w2, w3, w4, w5, c2, e3]; done)))
    | (apply AWP.rE; (focus (simp [go_sem, c1, hc0, hc4, hl', w1, w2, w3, w4, w5, c2, e3]; exact ⟨rfl, rfl⟩)); try dsimp only [thn, inBlk])
    | fail)
  simp [bodyQ, thn, inBlk, resA, resV, go_sem]
  refine ⟨a3, c3, ⟨rfl, by omega, rfl⟩, ?_⟩
  rw [show bs.length + 1 + 1 + 1 = 0 + 1 + 1 + 1 + L by omega]; exact k4

set_option maxHeartbeats 2000000 in
theorem refWrite_calls {O : Old} {h : AHeap} {R : List Chunk} {f : Fr} {a : Option Addr} {cap : Nat} (k : Own O h R) (hx : ∀ h, Own O h R → Bytes h (.slice a f.2.length cap) f.2) (hm : f.2.length ≤ 1000000000) :
    ACalls Try.prog 14 #[.agg #[.int .i64 f.1, .slice a f.2.length cap]] h fun v h' => ∃ a2 c2, v = .tuple #[.slice a2 (wr f).1.length c2, .int .i64 (wr f).2] ∧ Own O h' (ob 5 (.slice a2 (wr f).1.length c2) (wr f).1 :: R) := by
  obtain ⟨c, bs⟩ := f
  change ∀ h, Own O h R → Bytes h (.slice a bs.length cap) bs at hx
  change bs.length ≤ 1000000000 at hm
  have k1 := k.push (.row [.int .i64 c, .slice a bs.length cap] 36 2 true false)
  have c1 := k1.obj
  have z1 := (k1.push (.row [] 5 1 true false)).b1.obj
  have z2 : Own O _ (ob 5 (.slice (some ⟨h.next + 1, 0, none⟩) 0 0) [] :: R) := (k1.tail.push (.row [] 5 1 true false)).row_any (n := 0) rfl
  refine ACalls.of_awp (args := [.agg #[.int .i64 c, .slice a bs.length cap]]) (n := 37) Try.func14 rfl rfl (by show 1 ≤ 37; omega) ?_
  by_cases hc0 : c < 0
  · have e : wr (c, bs) = ([], 100) := by simp [wr, hc0]
    rw [e]
    (repeat' first
      | refine AWP.seq ?_
      | refine AWP.block ?_
      | (refine AWP.skip ?_; try dsimp only [thn, inBlk])
      | (refine AWP.exit ?_; try simp only [thn, inBlk, if_true])
      | (refine AWP.ret ?_; try dsimp only [thn, inBlk])
      | (refine AWP.condT ?_ ?_; (focus (simp [go_sem, c1, hc0, z1]; done)))
      | (refine AWP.condF ?_ ?_; (focus (simp [go_sem, c1, hc0, z1]; done)))
      | (apply AWP.rE; (focus (simp [go_sem, c1, hc0, z1]; exact ⟨rfl, rfl⟩)); try dsimp only [thn, inBlk])
      | fail)
    simp [bodyQ, thn, inBlk, resA, resV, go_sem]
    exact ⟨_, _, ⟨rfl, rfl⟩, z2⟩
  by_cases hc4 : 4 < c
  · have e : wr (c, bs) = ([], 100) := by simp [wr, hc4]
    rw [e]
    (repeat' first
      | refine AWP.seq ?_
      | refine AWP.block ?_
      | (refine AWP.skip ?_; try dsimp only [thn, inBlk])
      | (refine AWP.exit ?_; try simp only [thn, inBlk, if_true])
      | (refine AWP.ret ?_; try dsimp only [thn, inBlk])
      | (refine AWP.condT ?_ ?_; (focus (simp [go_sem, c1, hc0, hc4, z1]; done)))
      | (refine AWP.condF ?_ ?_; (focus (simp [go_sem, c1, hc0, hc4, z1]; done)))
      | (apply AWP.rE; (focus (simp [go_sem, c1, hc0, hc4, z1]; exact ⟨rfl, rfl⟩)); try dsimp only [thn, inBlk])
      | fail)
    simp [bodyQ, thn, inBlk, resA, resV, go_sem]
    exact ⟨_, _, ⟨rfl, rfl⟩, z2⟩
  by_cases hl : 512 < bs.length
  · have hl' : (512 : Int) < bs.length := by omega
    have e : wr (c, bs) = ([], 23) := by simp [wr, hc0, hc4, hl]
    rw [e]
    (repeat' first
      | refine AWP.seq ?_
      | refine AWP.block ?_
      | (refine AWP.skip ?_; try dsimp only [thn, inBlk])
      | (refine AWP.exit ?_; try simp only [thn, inBlk, if_true])
      | (refine AWP.ret ?_; try dsimp only [thn, inBlk])
      | (refine AWP.condT ?_ ?_; (focus (simp [go_sem, c1, hc0, hc4, hl', z1]; done)))
      | (refine AWP.condF ?_ ?_; (focus (simp [go_sem, c1, hc0, hc4, hl', z1]; done)))
      | (apply AWP.rE; (focus (simp [go_sem, c1, hc0, hc4, hl', z1]; exact ⟨rfl, rfl⟩)); try dsimp only [thn, inBlk])
      | fail)
    simp [bodyQ, thn, inBlk, resA, resV, go_sem]
    exact ⟨_, _, ⟨rfl, rfl⟩, z2⟩
  have hl' : ¬ (512 : Int) < bs.length := by omega
  have e : wr (c, bs) = (UInt8.ofNat c.toNat :: UInt8.ofNat (bs.length / 256) :: UInt8.ofNat (bs.length % 256) :: bs, 0) := by simp [wr, hc0, hc4, hl]
  rw [e]
  generalize hL : bs.length = L at *
  obtain ⟨m, hm⟩ : ∃ m, m = L / 256 := ⟨_, rfl⟩
  obtain ⟨q, hq⟩ : ∃ q, q = L % 256 := ⟨_, rfl⟩
  have w1 : IntKind.u8.wrap c = ((UInt8.ofNat c.toNat).toNat : Nat) := by rw [wU8 (by omega) (by omega)]; simp [UInt8.toNat_ofNat]; omega
  have w2 : IntKind.i64.wrap (m : Int) = m := wI64 (by omega) (by omega)
  have w2' : IntKind.i64.wrap (q : Int) = q := wI64 (by omega) (by omega)
  have w3 : IntKind.u8.wrap (m : Int) = ((UInt8.ofNat m).toNat : Nat) := by rw [wU8 (by omega) (by omega)]; simp [UInt8.toNat_ofNat]; omega
  have w4 : IntKind.u8.wrap (q : Int) = ((UInt8.ofNat q).toNat : Nat) := by rw [wU8 (by omega) (by omega)]; simp [UInt8.toNat_ofNat]; omega
  have w5 : (L : Int).tdiv 256 = m := by rw [hm]; rw [Int.tdiv_eq_ediv_of_nonneg (by omega)]; rfl
  have w6 : (L : Int).tmod 256 = q := by rw [hq]; rw [Int.tmod_eq_emod_of_nonneg (by omega)]; rfl
  obtain ⟨x1, hx1⟩ : ∃ x, x = UInt8.ofNat c.toNat := ⟨_, rfl⟩
  obtain ⟨x2, hx2⟩ : ∃ x, x = UInt8.ofNat m := ⟨_, rfl⟩
  obtain ⟨x3, hx3⟩ : ∃ x, x = UInt8.ofNat q := ⟨_, rfl⟩
  rw [← hx1] at w1
  rw [← hx2] at w3
  rw [← hx3] at w4
  rw [← hm, ← hq, ← hx1, ← hx2, ← hx3]
  have c2 := (k1.push (.row [.int .u8 x1.toNat, .int .u8 x2.toNat, .int .u8 x3.toNat] 5 1 true false)).b1.obj
  have k2 := k1.tail.push (.row [.int .u8 x1.toNat, .int .u8 x2.toNat, .int .u8 x3.toNat] 5 1 true false)
  have k3 : Own O _ (ob 5 (.slice (some ⟨h.next + 1, 0, none⟩) 3 3) [x1, x2, x3] :: R) := k2.row_any (n := 3) rfl
  obtain ⟨a3, c3, h3, e3, k4⟩ := k3.appB (P := Try.prog) (t := 26) (xt := 26) Try.underlying26 tsz5 tby5 tz5 nI26 (hx _ k3.tail).src (by simp; omega)
  simp only [hL, List.length_cons, List.length_nil] at e3 k4
  (repeat' first
    | refine AWP.seq ?_
    | refine AWP.block ?_
    | (refine AWP.skip ?_; try dsimp only [thn, inBlk])
    | (refine AWP.exit ?_; try simp only [thn, inBlk, if_true])
    | (refine AWP.ret ?_; try dsimp only [thn, inBlk])
    | (refine AWP.condT ?_ ?_; (focus (simp [go_sem, c1, hc0, hc4, hl', w1, w2, w2', w3, w4, w5, w6, c2, e3]; done)))
    | (refine AWP.condF ?_ ?_; (focus (simp [go_sem, c1, hc0, hc4, hl', w1, w2, w2', w3, w4, w5, w6, c2, e3]; done)))
    | (apply AWP.rE; (focus (simp [go_sem, c1, hc0, hc4, hl', w1, w2, w2', w3, w4, w5, w6, c2, e3]; exact ⟨rfl, rfl⟩)); try dsimp only [thn, inBlk])
    | fail)
  simp [bodyQ, thn, inBlk, resA, resV, go_sem]
  refine ⟨a3, c3, ⟨rfl, by omega, rfl⟩, ?_⟩
  rw [show bs.length + 1 + 1 + 1 = 0 + 1 + 1 + 1 + L by omega]; exact k4
end L17
