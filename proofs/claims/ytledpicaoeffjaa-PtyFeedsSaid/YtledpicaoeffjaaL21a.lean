import Derived.Test.YtledpicaoeffjaaL21T
import Derived.Test.YtledpicaoeffjaaAbWalk
open Go Ab Go.Proofs
namespace L21
set_option autoImplicit false
set_option linter.unusedSimpArgs false
set_option linter.unusedVariables false

/-- A terminal's line. -/
structure Pt where
  line : List UInt8
  entered : Bool
  stops : Nat
  shown : List UInt8
  lines : List (List UInt8)

abbrev prow (vl : Value) (en : Bool) (st : Nat) (vs vn : Value) : AObj := .row [vl, .bool en, .int .i64 st, vs, vn] 42 5 true false
abbrev ptr (i : Nat) : Value := .pointer (some ⟨i, 0, none⟩)

theorem show_calls {O : Old} {h : AHeap} {R : List Chunk} {i : Nat} {vl vs vn xv : Value} {en : Bool} {st : Nat} {shown bs : List UInt8}
    (k : Own O h (cell i (prow vl en st vs vn) :: ob 5 vs shown :: R)) (hx : ∀ h, Own O h R → Bytes h xv bs) (hm : shown.length + bs.length ≤ 10000000) :
    ACalls Try.prog 16 #[ptr i, xv] h fun _ h' => ∃ vs', Own O h' (cell i (prow vl en st vs' vn) :: ob 5 vs' (shown ++ bs) :: R) := by
  have c1 := k.obj
  obtain ⟨a, cap, h', e1, k2⟩ := k.b1.appB (P := Try.prog) (t := 25) (xt := 25) Try.underlying25 tsz5 tby5 tz5 nI25 (hx h k.tail.tail).src (by omega)
  have k3 := k2.b1
  have c2 := k3.obj
  refine ACalls.of_awp (args := [ptr i, xv]) (n := 13) Try.func16 rfl rfl (by show 2 ≤ 13; omega) ?_
  (repeat' first
    | refine AWP.seq ?_
    | refine AWP.block ?_
    | (refine AWP.skip ?_; try dsimp only [thn, inBlk])
    | (refine AWP.exit ?_; try simp only [thn, inBlk, if_true])
    | (refine AWP.ret ?_; try dsimp only [thn, inBlk])
    | (refine AWP.condT ?_ ?_; (focus (simp [go_sem, c1, e1, c2]; done)))
    | (refine AWP.condF ?_ ?_; (focus (simp [go_sem, c1, e1, c2]; done)))
    | (apply AWP.rE; (focus (simp [go_sem, c1, e1, c2]; exact ⟨rfl, rfl⟩)); try dsimp only [thn, inBlk])
    | fail)
  simp [bodyQ, thn, inBlk, resA, resV, go_sem]
  exact ⟨_, k3.set _⟩

/-- The terminal's line at number i of the heap. -/
def pty (i : Nat) (s : Pt) : Chunk := ex fun vl => ex fun vs => ex fun vn => star [cell i (prow vl s.entered s.stops vs vn), ob 5 vl s.line, ob 5 vs s.shown, os 9 1 vn s.lines.length (s.lines.map T)]

theorem pty_iff {O : Old} {h : AHeap} {R : List Chunk} {i : Nat} {s : Pt} : Own O h (pty i s :: R) ↔ ∃ al cl aw cw an cn, Own O h (cell i (prow (.slice al s.line.length cl) s.entered s.stops (.slice aw s.shown.length cw) (.slice an s.lines.length cn)) :: ob 5 (.slice al s.line.length cl) s.line :: ob 5 (.slice aw s.shown.length cw) s.shown :: os 9 1 (.slice an s.lines.length cn) s.lines.length (s.lines.map T) :: R) := by
  simp only [pty, Own.ex_iff, Own.star_iff, List.cons_append, List.nil_append]
  constructor
  · rintro ⟨vl, vs, vn, k⟩
    obtain ⟨al, cl, rfl⟩ := k.b1.os_val
    obtain ⟨aw, cw, rfl⟩ := k.b2.os_val
    obtain ⟨an, cn, rfl⟩ := k.b3.os_val
    exact ⟨_, _, _, _, _, _, k⟩
  · rintro ⟨al, cl, aw, cw, an, cn, k⟩
    exact ⟨_, _, _, k⟩

theorem pty_mk {O : Old} {h : AHeap} {R : List Chunk} {i : Nat} {s : Pt} {vl vs vn : Value} (k : Own O h (cell i (prow vl s.entered s.stops vs vn) :: ob 5 vl s.line :: ob 5 vs s.shown :: os 9 1 vn s.lines.length (s.lines.map T) :: R)) : Own O h (pty i s :: R) := by
  simp only [pty, Own.ex_iff, Own.star_iff, List.cons_append, List.nil_append]
  exact ⟨_, _, _, k⟩

def Pt.rub (s : Pt) : Pt := if s.line = [] then s else { s with line := s.line.dropLast, shown := s.shown ++ [8, 32, 8] }

theorem rub_calls {O : Old} {h : AHeap} {R : List Chunk} {i : Nat} {s : Pt} (k : Own O h (pty i s :: R)) (hm : s.shown.length ≤ 9000000) (hl : s.line.length ≤ 9000000) :
    ACalls Try.prog 17 #[ptr i] h fun r h' => r = .bool (!s.line.isEmpty) ∧ Own O h' (pty i s.rub :: R) := by
  obtain ⟨al, cl, aw, cw, an, cn, k1⟩ := pty_iff.1 k
  have c1 := k1.obj
  refine ACalls.of_awp (args := [ptr i]) (n := 26) Try.func17 rfl rfl (by show 1 ≤ 26; omega) ?_
  rcases List.eq_nil_or_concat s.line with e | ⟨l, x, e⟩
  · have e0 : s.line.length = 0 := by rw [e]; rfl
    (repeat' first
      | refine AWP.seq ?_
      | refine AWP.block ?_
      | (refine AWP.skip ?_; try dsimp only [thn, inBlk])
      | (refine AWP.exit ?_; try simp only [thn, inBlk, if_true])
      | (refine AWP.ret ?_; try dsimp only [thn, inBlk])
      | (refine AWP.condT ?_ ?_; (focus (simp [go_sem, c1, e0]; done)))
      | (refine AWP.condF ?_ ?_; (focus (simp [go_sem, c1, e0]; done)))
      | (apply AWP.rE; (focus (simp [go_sem, c1, e0]; exact ⟨rfl, rfl⟩)); try dsimp only [thn, inBlk])
      | (apply AWP.dE hmix [.n 0 [0], .n 1 [0], .n 2 [10], .n 3 [11], .n 4 [12], .n 5 [0], .n 6 [14], .n 7 [15], .n 8 [16], .n 9 [17], .n 10 [18], .n 11 [13, 19], .n 12 [9], .n 13 [21], .w 14 [22, 20] []]; (focus kernel_rfl); (focus (simp [go_sem, c1, e0]; exact ⟨rfl, rfl⟩)); try dsimp only [thn, inBlk])
      | fail)
    simp [bodyQ, thn, inBlk, resA, resV, go_sem]
    exact ⟨e, by rw [Pt.rub, if_pos e]; exact k⟩
  · have e0 : s.line.length = l.length + 1 := by rw [e]; simp
    obtain ⟨v2, e2, k2⟩ := k1.b1.ob_slice (P := Try.prog) (t := 25) Try.underlying25 tsz5 (lo := 0) (hi := l.length) (l := none) (u := some (.int .i64 l.length)) (by omega) (by omega) (.inl ⟨rfl, rfl⟩) (.inr ⟨_, rfl⟩)
    have e3 : (s.line.take l.length).drop 0 = l := by rw [e]; simp
    rw [e3] at k2
    obtain ⟨a, cap, rfl⟩ := k2.os_val
    rw [e0] at c1 e2
    have e4 : ((l.length : Int) + 1 == 0) = false := by simp; omega
    have w1 : IntKind.i64.wrap (l.length : Int) = l.length := wI64 (by omega) (by omega)
    (repeat' first
      | refine AWP.seq ?_
      | refine AWP.block ?_
      | (refine AWP.skip ?_; try dsimp only [thn, inBlk])
      | (refine AWP.exit ?_; try simp only [thn, inBlk, if_true])
      | (refine AWP.ret ?_; try dsimp only [thn, inBlk])
      | (refine AWP.condT ?_ ?_; (focus (simp [go_sem, c1, e2, w1, e4]; done)))
      | (refine AWP.condF ?_ ?_; (focus (simp [go_sem, c1, e2, w1, e4]; done)))
      | (apply AWP.rE; (focus (simp [go_sem, c1, e2, w1, e4]; exact ⟨rfl, rfl⟩)); try dsimp only [thn, inBlk])
      | (apply AWP.dE hmix [.n 0 [0], .n 1 [0], .n 2 [10], .n 3 [11], .n 4 [12], .n 5 [0], .n 6 [14], .n 7 [15], .n 8 [16], .n 9 [17], .n 10 [18], .n 11 [13, 19], .n 12 [9], .n 13 [21], .w 14 [22, 20] []]; (focus kernel_rfl); (focus (simp [go_sem, c1, e2, w1, e4]; exact ⟨rfl, rfl⟩)); try dsimp only [thn, inBlk])
      | fail)
    have k3 := k2.b1.set (prow (.slice a l.length cap) s.entered s.stops (.slice aw s.shown.length cw) (.slice an s.lines.length cn))
    have k4 := k3.push (.row [.int .u8 8, .int .u8 32, .int .u8 8] 5 1 true false)
    refine AWP.callE (by simp [go_sem]; exact ⟨rfl, rfl, rfl, rfl, rfl⟩) (by kernel_rfl) ?_
    refine (show_calls k4.b3.b2 (bs := [8, 32, 8]) (fun h k => row_bytes k rfl) (by simp; omega)).mono ?_
    rintro r h' ⟨vs', k5⟩
    refine awpL_restE (by simp [go_sem]; exact ⟨rfl, rfl⟩) ?_; try dsimp only [thn, inBlk]
    (repeat' first
      | refine AWP.seq ?_
      | refine AWP.block ?_
      | (refine AWP.skip ?_; try dsimp only [thn, inBlk])
      | (refine AWP.exit ?_; try simp only [thn, inBlk, if_true])
      | (refine AWP.ret ?_; try dsimp only [thn, inBlk])
      | (refine AWP.condT ?_ ?_; (focus (simp [go_sem]; done)))
      | (refine AWP.condF ?_ ?_; (focus (simp [go_sem]; done)))
      | (apply AWP.rE; (focus (simp [go_sem]; exact ⟨rfl, rfl⟩)); try dsimp only [thn, inBlk])
      | (apply AWP.dE hmix [.n 0 [0], .n 1 [0], .n 2 [10], .n 3 [11], .n 4 [12], .n 5 [0], .n 6 [14], .n 7 [15], .n 8 [16], .n 9 [17], .n 10 [18], .n 11 [13, 19], .n 12 [9], .n 13 [21], .w 14 [22, 20] []]; (focus kernel_rfl); (focus (simp [go_sem]; exact ⟨rfl, rfl⟩)); try dsimp only [thn, inBlk])
      | fail)
    simp [bodyQ, thn, inBlk, resA, resV, go_sem]
    refine ⟨by simp [e], ?_⟩
    have e5 : s.line.dropLast = l := by simp [e]
    rw [Pt.rub, if_neg (by simp [e]), e5]
    exact pty_mk (s := { s with line := l, shown := s.shown ++ [8, 32, 8] }) k5.b3.b1.d3

def Pt.plain (c : UInt8) (s : Pt) : Pt :=
  if c < 32 ∨ 126 < c then s else if 80 ≤ s.line.length then { s with shown := s.shown ++ [7] } else { s with line := s.line ++ [c], shown := s.shown ++ [c] }

theorem plain_calls {O : Old} {h : AHeap} {R : List Chunk} {i : Nat} {s : Pt} {c : UInt8} (k : Own O h (pty i s :: R)) (hm : s.shown.length ≤ 9000000) (hl : s.line.length ≤ 9000000) :
    ACalls Try.prog 18 #[ptr i, B c] h fun _ h' => Own O h' (pty i (s.plain c) :: R) := by
  obtain ⟨al, cl, aw, cw, an, cn, k1⟩ := pty_iff.1 k
  have c1 := k1.obj
  refine ACalls.of_awp (args := [ptr i, B c]) (n := 35) Try.func18 rfl rfl (by show 2 ≤ 35; omega) ?_
  by_cases h1 : c < 32
  · have h1n : c.toNat < 32 := UInt8.lt_iff_toNat_lt.1 h1
    have h1' : (c.toNat : Int) < 32 := by omega
    (repeat' first
      | refine AWP.seq ?_
      | refine AWP.block ?_
      | (refine AWP.skip ?_; try dsimp only [thn, inBlk])
      | (refine AWP.exit ?_; try simp only [thn, inBlk, if_true])
      | (refine AWP.ret ?_; try dsimp only [thn, inBlk])
      | (refine AWP.condT ?_ ?_; (focus (simp [go_sem, c1, B, h1']; done)))
      | (refine AWP.condF ?_ ?_; (focus (simp [go_sem, c1, B, h1']; done)))
      | (apply AWP.rE; (focus (simp [go_sem, c1, B, h1']; exact ⟨rfl, rfl⟩)); try dsimp only [thn, inBlk])
      | fail)
    simp [bodyQ, thn, inBlk, resA, resV, go_sem]
    rw [Pt.plain, if_pos (.inl h1)]; exact k
  have h1n : ¬ c.toNat < 32 := fun h => h1 (UInt8.lt_iff_toNat_lt.2 h)
  have h1' : ¬ (c.toNat : Int) < 32 := by omega
  by_cases h2 : 126 < c
  · have h2n : 126 < c.toNat := UInt8.lt_iff_toNat_lt.1 h2
    have h2' : (126 : Int) < c.toNat := by omega
    (repeat' first
      | refine AWP.seq ?_
      | refine AWP.block ?_
      | (refine AWP.skip ?_; try dsimp only [thn, inBlk])
      | (refine AWP.exit ?_; try simp only [thn, inBlk, if_true])
      | (refine AWP.ret ?_; try dsimp only [thn, inBlk])
      | (refine AWP.condT ?_ ?_; (focus (simp [go_sem, c1, B, h1', h2']; done)))
      | (refine AWP.condF ?_ ?_; (focus (simp [go_sem, c1, B, h1', h2']; done)))
      | (apply AWP.rE; (focus (simp [go_sem, c1, B, h1', h2']; exact ⟨rfl, rfl⟩)); try dsimp only [thn, inBlk])
      | fail)
    simp [bodyQ, thn, inBlk, resA, resV, go_sem]
    rw [Pt.plain, if_pos (.inr h2)]; exact k
  have h2n : ¬ 126 < c.toNat := fun h => h2 (UInt8.lt_iff_toNat_lt.2 h)
  have h2' : ¬ (126 : Int) < c.toNat := by omega
  by_cases h3 : 80 ≤ s.line.length
  · have h3' : (80 : Int) ≤ s.line.length := by omega
    (repeat' first
      | refine AWP.seq ?_
      | refine AWP.block ?_
      | (refine AWP.skip ?_; try dsimp only [thn, inBlk])
      | (refine AWP.exit ?_; try simp only [thn, inBlk, if_true])
      | (refine AWP.ret ?_; try dsimp only [thn, inBlk])
      | (refine AWP.condT ?_ ?_; (focus (simp [go_sem, c1, B, h1', h2', h3']; done)))
      | (refine AWP.condF ?_ ?_; (focus (simp [go_sem, c1, B, h1', h2', h3']; done)))
      | (apply AWP.rE; (focus (simp [go_sem, c1, B, h1', h2', h3']; exact ⟨rfl, rfl⟩)); try dsimp only [thn, inBlk])
      | fail)
    refine AWP.callE (by simp [go_sem, B]; exact ⟨rfl, rfl, rfl, rfl, rfl⟩) (by kernel_rfl) ?_
    refine (show_calls (k1.push (.row [.int .u8 7] 5 1 true false)).b3.b2 (bs := [7]) (fun h k => row_bytes k rfl) (by simp; omega)).mono ?_
    rintro r h' ⟨vs', k5⟩
    refine awpL_restE (by simp [go_sem]; exact ⟨rfl, rfl⟩) ?_; try dsimp only [thn, inBlk]
    simp [bodyQ, thn, inBlk, resA, resV, go_sem]
    rw [Pt.plain, if_neg (fun h => h.elim h1 h2), if_pos h3]
    exact pty_mk (s := { s with shown := s.shown ++ [7] }) k5.b3.b1.d3
  · have h3' : ¬ (80 : Int) ≤ s.line.length := by omega
    obtain ⟨a, cap, hh, e1, k2⟩ := k1.b1.appB1 (P := Try.prog) (t := 25) (xt := 25) (c := c) Try.underlying25 tsz5 tby5 tz5 nI25 rfl (by omega)
    have k3 := k2.b1
    have c2 := k3.obj
    have k4 := (k3.set (prow (.slice a (s.line.length + 1) cap) s.entered s.stops (.slice aw s.shown.length cw) (.slice an s.lines.length cn))).push (.row [B c] 5 1 true false)
    (repeat' first
      | refine AWP.seq ?_
      | refine AWP.block ?_
      | (refine AWP.skip ?_; try dsimp only [thn, inBlk])
      | (refine AWP.exit ?_; try simp only [thn, inBlk, if_true])
      | (refine AWP.ret ?_; try dsimp only [thn, inBlk])
      | (refine AWP.condT ?_ ?_; (focus (simp [go_sem, c1, B, h1', h2', h3', e1, c2]; done)))
      | (refine AWP.condF ?_ ?_; (focus (simp [go_sem, c1, B, h1', h2', h3', e1, c2]; done)))
      | (apply AWP.rE; (focus (simp [go_sem, c1, B, h1', h2', h3', e1, c2]; exact ⟨rfl, rfl⟩)); try dsimp only [thn, inBlk])
      | fail)
    refine AWP.callE (by simp [go_sem, B]; exact ⟨rfl, rfl, rfl, rfl, rfl⟩) (by kernel_rfl) ?_
    refine (show_calls k4.b3.b2 (bs := [c]) (fun h k => row_bytes k rfl) (by simp; omega)).mono ?_
    rintro r h' ⟨vs', k5⟩
    refine awpL_restE (by simp [go_sem]; exact ⟨rfl, rfl⟩) ?_; try dsimp only [thn, inBlk]
    simp [bodyQ, thn, inBlk, resA, resV, go_sem]
    rw [Pt.plain, if_neg (fun h => h.elim h1 h2), if_neg h3]
    exact pty_mk (s := { s with line := s.line ++ [c], shown := s.shown ++ [c] }) k5.b3.b1.d3

def Pt.enter (s : Pt) : Pt := { s with lines := s.lines ++ [s.line], line := [], shown := s.shown ++ [13, 10] }
def Pt.kill (s : Pt) : Pt := { s with line := [], shown := s.shown ++ (List.replicate s.line.length [8, 32, 8]).flatten }
def Pt.stop (s : Pt) : Pt := { s with line := [], stops := s.stops + 1, shown := s.shown ++ [94, 67, 13, 10] }
def Pt.key (c : UInt8) (s : Pt) : Pt :=
  let t := { s with entered := c == 13 }
  if c = 10 then (if s.entered then t else t.enter) else if c = 13 then t.enter else if c = 8 ∨ c = 127 then t.rub else if c = 21 then t.kill else if c = 3 then t.stop else t.plain c

/-- How great a line may be. -/
structure Pt.ok (s : Pt) (n : Nat) : Prop where
  line : s.line.length ≤ 80
  shown : s.shown.length ≤ n
  lines : s.lines.length ≤ n
  stops : s.stops ≤ n

theorem flatten3 (n : Nat) : ((List.replicate n [(8 : UInt8), 32, 8]).flatten).length = 3 * n := by
  induction n with
  | zero => rfl
  | succ n ih => rw [List.replicate_succ, List.flatten_cons, List.length_append, ih]; simp; omega

theorem Pt.ok.enter {s : Pt} {n : Nat} (h : s.ok n) : s.enter.ok (n + 240) := by
  obtain ⟨h1, h2, h3, h4⟩ := h
  constructor <;> simp [Pt.enter] <;> omega
theorem Pt.ok.kill {s : Pt} {n : Nat} (h : s.ok n) : s.kill.ok (n + 240) := by
  obtain ⟨h1, h2, h3, h4⟩ := h
  have := flatten3 s.line.length
  constructor
  · simp [Pt.kill]
  · simp only [Pt.kill, List.length_append]; omega
  · simp only [Pt.kill]; omega
  · simp only [Pt.kill]; omega
theorem Pt.ok.stop {s : Pt} {n : Nat} (h : s.ok n) : s.stop.ok (n + 240) := by
  obtain ⟨h1, h2, h3, h4⟩ := h
  constructor <;> simp [Pt.stop] <;> omega
theorem Pt.ok.rub {s : Pt} {n : Nat} (h : s.ok n) : s.rub.ok (n + 240) := by
  obtain ⟨h1, h2, h3, h4⟩ := h
  unfold Pt.rub
  split
  · constructor <;> omega
  · constructor <;> simp <;> omega
theorem Pt.ok.plain {s : Pt} {n : Nat} (c : UInt8) (h : s.ok n) : (s.plain c).ok (n + 240) := by
  obtain ⟨h1, h2, h3, h4⟩ := h
  unfold Pt.plain
  split
  · constructor <;> omega
  · split
    · constructor <;> simp <;> omega
    · constructor <;> simp <;> omega
theorem Pt.ok.ent {s : Pt} {n : Nat} (b : Bool) (h : s.ok n) : ({ s with entered := b } : Pt).ok n := ⟨h.line, h.shown, h.lines, h.stops⟩
theorem Pt.ok.le {s : Pt} {n m : Nat} (h : s.ok n) (hm : n ≤ m) : s.ok m := ⟨h.line, Nat.le_trans h.shown hm, Nat.le_trans h.lines hm, Nat.le_trans h.stops hm⟩
theorem Pt.ok.key {s : Pt} {n : Nat} (c : UInt8) (h : s.ok n) : (s.key c).ok (n + 240) := by
  have h' := Pt.ok.ent (c == 13) h
  unfold Pt.key
  simp only []
  split
  · split
    · exact h'.le (by omega)
    · exact h'.enter
  · split
    · exact h'.enter
    · split
      · exact h'.rub
      · split
        · exact h'.kill
        · split
          · exact h'.stop
          · exact h'.plain c


set_option maxHeartbeats 1000000 in
theorem key_calls {O : Old} {h : AHeap} {R : List Chunk} {i n : Nat} {s : Pt} {c : UInt8} (k : Own O h (pty i s :: R)) (ok : s.ok n) (hn : n ≤ 8000000) :
    ACalls Try.prog 15 #[ptr i, B c] h fun _ h' => Own O h' (pty i (s.key c) :: R) := by
  obtain ⟨al, cl, aw, cw, an, cn, k1⟩ := pty_iff.1 k
  obtain ⟨o1, o2, o3, o4⟩ := ok
  have c1 := k1.obj
  refine ACalls.of_awp (args := [ptr i, B c]) (n := 67) Try.func15 rfl rfl (by show 2 ≤ 67; omega) ?_
  generalize hen : (c == 13) = en
  have k0 := k1.set (prow (.slice al s.line.length cl) en s.stops (.slice aw s.shown.length cw) (.slice an s.lines.length cn))
  have c2 := k0.obj
  have sr := k0.b1.ob_bytes.str (P := Try.prog) (t := 25) (e := 5) (u := 9) Try.underlying25 Try.underlying5 Try.underlying9
  by_cases h10 : c = 10
  · subst h10
    obtain rfl : en = false := by rw [← hen]; rfl
    by_cases he : s.entered = true
    · (repeat' first
        | refine AWP.seq ?_
        | refine AWP.block ?_
        | (refine AWP.skip ?_; try dsimp only [thn, inBlk])
        | (refine AWP.exit ?_; try simp only [thn, inBlk, if_true])
        | (refine AWP.ret ?_; try dsimp only [thn, inBlk])
        | (refine AWP.condT ?_ ?_; (focus (simp [go_sem, c1, B, he]; done)))
        | (refine AWP.condF ?_ ?_; (focus (simp [go_sem, c1, B, he]; done)))
        | (apply AWP.rE; (focus (simp [go_sem, c1, B, he]; exact ⟨rfl, rfl⟩)); try dsimp only [thn, inBlk])
        | (apply AWP.dE hmix [.n 0 [0], .n 1 [0], .n 2 [28], .n 3 [29], .n 4 [30], .n 5 [0], .n 6 [32], .n 7 [33], .n 8 [34], .n 9 [35], .n 10 [36], .w 11 [31, 37] [], .n 12 [27], .n 13 [39], .w 14 [40, 38] []]; (focus kernel_rfl); (focus (simp [go_sem, c1, B, he]; exact ⟨rfl, rfl⟩)); try dsimp only [thn, inBlk])
        | fail)
      simp [bodyQ, thn, inBlk, resA, resV, go_sem]
      rw [Pt.key]
      simp only [if_pos, he]
      exact pty_mk (s := { s with entered := false }) k0
    have he' : s.entered = false := by simpa using he
    rw [he'] at c1
    obtain ⟨a, cap, hh, e1, k2⟩ := k0.b3.app1 (P := Try.prog) (t := 26) (xt := 26) (x := .string ⟨s.line.toArray⟩) (i := h.next) Try.underlying26 tsz9 tby9 tz9 nI26 (by omega) rfl rfl rfl (by omega)
    have k3 := k2.b1
    have c3 := k3.obj
    have k4 := (k3.set (prow (.slice al s.line.length cl) false s.stops (.slice aw s.shown.length cw) (.slice a (s.lines.length + 1) cap))).set (prow (.slice none 0 0) false s.stops (.slice aw s.shown.length cw) (.slice a (s.lines.length + 1) cap))
    have k5 := ((k4.d2.nil 5 1).b1).push (.row [.int .u8 13, .int .u8 10] 5 1 true false)
    (repeat' first
      | refine AWP.seq ?_
      | refine AWP.block ?_
      | (refine AWP.skip ?_; try dsimp only [thn, inBlk])
      | (refine AWP.exit ?_; try simp only [thn, inBlk, if_true])
      | (refine AWP.ret ?_; try dsimp only [thn, inBlk])
      | (refine AWP.condT ?_ ?_; (focus (simp [go_sem, c1, B, c2, sr, e1, c3]; done)))
      | (refine AWP.condF ?_ ?_; (focus (simp [go_sem, c1, B, c2, sr, e1, c3]; done)))
      | (apply AWP.rE; (focus (simp [go_sem, c1, B, c2, sr, e1, c3]; exact ⟨rfl, rfl⟩)); try dsimp only [thn, inBlk])
      | (apply AWP.dE hmix [.n 0 [0], .n 1 [0], .n 2 [28], .n 3 [29], .n 4 [30], .n 5 [0], .n 6 [32], .n 7 [33], .n 8 [34], .n 9 [35], .n 10 [36], .w 11 [31, 37] [], .n 12 [27], .n 13 [39], .w 14 [40, 38] []]; (focus kernel_rfl); (focus (simp [go_sem, c1, B, c2, sr, e1, c3]; exact ⟨rfl, rfl⟩)); try dsimp only [thn, inBlk])
      | fail)
    refine AWP.callE (by simp [go_sem]; exact ⟨rfl, rfl, rfl, rfl, rfl⟩) (by kernel_rfl) ?_
    refine (show_calls (shown := s.shown) (k5.b4.b2) (bs := [13, 10]) (fun h k => row_bytes k rfl) (by simp; omega)).mono ?_
    rintro r h' ⟨vs', k6⟩
    refine awpL_restE (by simp [go_sem]; exact ⟨rfl, rfl⟩) ?_; try dsimp only [thn, inBlk]
    (repeat' first
      | refine AWP.seq ?_
      | refine AWP.block ?_
      | (refine AWP.skip ?_; try dsimp only [thn, inBlk])
      | (refine AWP.exit ?_; try simp only [thn, inBlk, if_true])
      | (refine AWP.ret ?_; try dsimp only [thn, inBlk])
      | (refine AWP.condT ?_ ?_; (focus (simp [go_sem]; done)))
      | (refine AWP.condF ?_ ?_; (focus (simp [go_sem]; done)))
      | (apply AWP.rE; (focus (simp [go_sem]; exact ⟨rfl, rfl⟩)); try dsimp only [thn, inBlk])
      | (apply AWP.dE hmix [.n 0 [0], .n 1 [0], .n 2 [28], .n 3 [29], .n 4 [30], .n 5 [0], .n 6 [32], .n 7 [33], .n 8 [34], .n 9 [35], .n 10 [36], .w 11 [31, 37] [], .n 12 [27], .n 13 [39], .w 14 [40, 38] []]; (focus kernel_rfl); (focus (simp [go_sem]; exact ⟨rfl, rfl⟩)); try dsimp only [thn, inBlk])
      | fail)
    simp [bodyQ, thn, inBlk, resA, resV, go_sem]
    have k7 : Own O h' (pty i (Pt.enter { s with entered := false }) :: R) := pty_mk (s := Pt.enter { s with entered := false }) (by simpa [Pt.enter, ob, T] using k6.d2.b2.b1)
    rw [Pt.key]
    simp only [if_pos, he']
    exact k7
  have n10 : ¬ (c.toNat : Int) = 10 := fun e => h10 (UInt8.toNat_inj.1 (Int.ofNat.inj e))
  by_cases h13 : c = 13
  · subst h13
    obtain rfl : en = true := by rw [← hen]; rfl
    obtain ⟨a, cap, hh, e1, k2⟩ := k0.b3.app1 (P := Try.prog) (t := 26) (xt := 26) (x := .string ⟨s.line.toArray⟩) (i := h.next) Try.underlying26 tsz9 tby9 tz9 nI26 (by omega) rfl rfl rfl (by omega)
    have k3 := k2.b1
    have c3 := k3.obj
    have k4 := (k3.set (prow (.slice al s.line.length cl) true s.stops (.slice aw s.shown.length cw) (.slice a (s.lines.length + 1) cap))).set (prow (.slice none 0 0) true s.stops (.slice aw s.shown.length cw) (.slice a (s.lines.length + 1) cap))
    have k5 := ((k4.d2.nil 5 1).b1).push (.row [.int .u8 13, .int .u8 10] 5 1 true false)
    (repeat' first
      | refine AWP.seq ?_
      | refine AWP.block ?_
      | (refine AWP.skip ?_; try dsimp only [thn, inBlk])
      | (refine AWP.exit ?_; try simp only [thn, inBlk, if_true])
      | (refine AWP.ret ?_; try dsimp only [thn, inBlk])
      | (refine AWP.condT ?_ ?_; (focus (simp [go_sem, c1, B, c2, sr, e1, c3]; done)))
      | (refine AWP.condF ?_ ?_; (focus (simp [go_sem, c1, B, c2, sr, e1, c3]; done)))
      | (apply AWP.rE; (focus (simp [go_sem, c1, B, c2, sr, e1, c3]; exact ⟨rfl, rfl⟩)); try dsimp only [thn, inBlk])
      | (apply AWP.dE hmix [.n 0 [0], .n 1 [0], .n 2 [28], .n 3 [29], .n 4 [30], .n 5 [0], .n 6 [32], .n 7 [33], .n 8 [34], .n 9 [35], .n 10 [36], .w 11 [31, 37] [], .n 12 [27], .n 13 [39], .w 14 [40, 38] []]; (focus kernel_rfl); (focus (simp [go_sem, c1, B, c2, sr, e1, c3]; exact ⟨rfl, rfl⟩)); try dsimp only [thn, inBlk])
      | fail)
    refine AWP.callE (by simp [go_sem]; exact ⟨rfl, rfl, rfl, rfl, rfl⟩) (by kernel_rfl) ?_
    refine (show_calls (shown := s.shown) (k5.b4.b2) (bs := [13, 10]) (fun h k => row_bytes k rfl) (by simp; omega)).mono ?_
    rintro r h' ⟨vs', k6⟩
    refine awpL_restE (by simp [go_sem]; exact ⟨rfl, rfl⟩) ?_; try dsimp only [thn, inBlk]
    (repeat' first
      | refine AWP.seq ?_
      | refine AWP.block ?_
      | (refine AWP.skip ?_; try dsimp only [thn, inBlk])
      | (refine AWP.exit ?_; try simp only [thn, inBlk, if_true])
      | (refine AWP.ret ?_; try dsimp only [thn, inBlk])
      | (refine AWP.condT ?_ ?_; (focus (simp [go_sem]; done)))
      | (refine AWP.condF ?_ ?_; (focus (simp [go_sem]; done)))
      | (apply AWP.rE; (focus (simp [go_sem]; exact ⟨rfl, rfl⟩)); try dsimp only [thn, inBlk])
      | (apply AWP.dE hmix [.n 0 [0], .n 1 [0], .n 2 [28], .n 3 [29], .n 4 [30], .n 5 [0], .n 6 [32], .n 7 [33], .n 8 [34], .n 9 [35], .n 10 [36], .w 11 [31, 37] [], .n 12 [27], .n 13 [39], .w 14 [40, 38] []]; (focus kernel_rfl); (focus (simp [go_sem]; exact ⟨rfl, rfl⟩)); try dsimp only [thn, inBlk])
      | fail)
    simp [bodyQ, thn, inBlk, resA, resV, go_sem]
    have k7 : Own O h' (pty i (Pt.enter { s with entered := true }) :: R) := pty_mk (s := Pt.enter { s with entered := true }) (by simpa [Pt.enter, ob, T] using k6.d2.b2.b1)
    rw [Pt.key]
    simp only [if_pos]
    exact k7
  have n13 : ¬ (c.toNat : Int) = 13 := fun e => h13 (UInt8.toNat_inj.1 (Int.ofNat.inj e))
  have e13 : ((c.toNat : Int) == 13) = false := beq_eq_false_iff_ne.2 n13
  obtain rfl : en = false := by rw [← hen]; simpa using h13
  have hk : s.key c = if c = 8 ∨ c = 127 then Pt.rub { s with entered := false } else if c = 21 then Pt.kill { s with entered := false } else if c = 3 then Pt.stop { s with entered := false } else Pt.plain c { s with entered := false } := by
    rw [Pt.key]; simp only [hen, if_neg h10, if_neg h13]
  rw [hk]
  have k9 : Own O (h.set i (prow (.slice al s.line.length cl) false s.stops (.slice aw s.shown.length cw) (.slice an s.lines.length cn))) (pty i { s with entered := false } :: R) := pty_mk (s := { s with entered := false }) k0
  by_cases h8 : c = 8 ∨ c = 127
  · rcases h8 with rfl | rfl
    all_goals
      (repeat' first
        | refine AWP.seq ?_
        | refine AWP.block ?_
        | (refine AWP.skip ?_; try dsimp only [thn, inBlk])
        | (refine AWP.exit ?_; try simp only [thn, inBlk, if_true])
        | (refine AWP.ret ?_; try dsimp only [thn, inBlk])
        | (refine AWP.condT ?_ ?_; (focus (simp [go_sem, c1, B]; done)))
        | (refine AWP.condF ?_ ?_; (focus (simp [go_sem, c1, B]; done)))
        | (apply AWP.rE; (focus (simp [go_sem, c1, B]; exact ⟨rfl, rfl⟩)); try dsimp only [thn, inBlk])
        | (apply AWP.dE hmix [.n 0 [0], .n 1 [0], .n 2 [28], .n 3 [29], .n 4 [30], .n 5 [0], .n 6 [32], .n 7 [33], .n 8 [34], .n 9 [35], .n 10 [36], .w 11 [31, 37] [], .n 12 [27], .n 13 [39], .w 14 [40, 38] []]; (focus kernel_rfl); (focus (simp [go_sem, c1, B]; exact ⟨rfl, rfl⟩)); try dsimp only [thn, inBlk])
        | fail)
      refine AWP.callE (by simp [go_sem]; exact ⟨rfl, rfl, rfl, rfl, rfl⟩) (by kernel_rfl) ?_
      refine (rub_calls k9 (by simp; omega) (by simp; omega)).mono ?_
      rintro r h' ⟨rfl, k5⟩
      refine awpL_restE (by simp [go_sem]; exact ⟨rfl, rfl⟩) ?_; try dsimp only [thn, inBlk]
      (repeat' first
        | refine AWP.seq ?_
        | refine AWP.block ?_
        | (refine AWP.skip ?_; try dsimp only [thn, inBlk])
        | (refine AWP.exit ?_; try simp only [thn, inBlk, if_true])
        | (refine AWP.ret ?_; try dsimp only [thn, inBlk])
        | (refine AWP.condT ?_ ?_; (focus (simp [go_sem]; done)))
        | (refine AWP.condF ?_ ?_; (focus (simp [go_sem]; done)))
        | (apply AWP.rE; (focus (simp [go_sem]; exact ⟨rfl, rfl⟩)); try dsimp only [thn, inBlk])
        | (apply AWP.dE hmix [.n 0 [0], .n 1 [0], .n 2 [28], .n 3 [29], .n 4 [30], .n 5 [0], .n 6 [32], .n 7 [33], .n 8 [34], .n 9 [35], .n 10 [36], .w 11 [31, 37] [], .n 12 [27], .n 13 [39], .w 14 [40, 38] []]; (focus kernel_rfl); (focus (simp [go_sem]; exact ⟨rfl, rfl⟩)); try dsimp only [thn, inBlk])
        | fail)
      simp [bodyQ, thn, inBlk, resA, resV, go_sem]
      exact k5
  rw [if_neg h8]
  have n8 : ¬ (c.toNat : Int) = 8 := fun e => h8 (.inl (UInt8.toNat_inj.1 (Int.ofNat.inj e)))
  have n127 : ¬ (c.toNat : Int) = 127 := fun e => h8 (.inr (UInt8.toNat_inj.1 (Int.ofNat.inj e)))
  by_cases h21 : c = 21
  · subst h21
    rw [if_pos rfl]
    (repeat' first
      | refine AWP.seq ?_
      | refine AWP.block ?_
      | (refine AWP.skip ?_; try dsimp only [thn, inBlk])
      | (refine AWP.exit ?_; try simp only [thn, inBlk, if_true])
      | (refine AWP.ret ?_; try dsimp only [thn, inBlk])
      | (refine AWP.condT ?_ ?_; (focus (simp [go_sem, c1, B]; done)))
      | (refine AWP.condF ?_ ?_; (focus (simp [go_sem, c1, B]; done)))
      | (apply AWP.rE; (focus (simp [go_sem, c1, B]; exact ⟨rfl, rfl⟩)); try dsimp only [thn, inBlk])
      | (apply AWP.dE hmix [.n 0 [0], .n 1 [0], .n 2 [28], .n 3 [29], .n 4 [30], .n 5 [0], .n 6 [32], .n 7 [33], .n 8 [34], .n 9 [35], .n 10 [36], .w 11 [31, 37] [], .n 12 [27], .n 13 [39], .w 14 [40, 38] []]; (focus kernel_rfl); (focus (simp [go_sem, c1, B]; exact ⟨rfl, rfl⟩)); try dsimp only [thn, inBlk])
      | fail)
    refine AWP.loopR [0] (fun n s' h' => ∃ t : Pt, s' = ⟨67, [(0, ptr i)]⟩ ∧ n = t.line.length ∧ t.line.length ≤ 80 ∧ t.shown.length ≤ 9000000 - 3 * t.line.length ∧ t.kill = Pt.kill { s with entered := false } ∧ Own O h' (pty i t :: R)) ?_ ?_
    · exact ⟨_, { s with entered := false }, by simp [go_sem], rfl, o1, by simp; omega, rfl, k9⟩
    · rintro m s' h' ⟨t, rfl, rfl, ht1, ht2, ht3, kt⟩
      (repeat' first
        | refine AWP.seq ?_
        | refine AWP.block ?_
        | (refine AWP.skip ?_; try dsimp only [thn, inBlk])
        | (refine AWP.exit ?_; try simp only [thn, inBlk, if_true])
        | (refine AWP.ret ?_; try dsimp only [thn, inBlk])
        | (refine AWP.condT ?_ ?_; (focus (simp [go_sem]; done)))
        | (refine AWP.condF ?_ ?_; (focus (simp [go_sem]; done)))
        | (apply AWP.rE; (focus (simp [go_sem]; exact ⟨rfl, rfl⟩)); try dsimp only [thn, inBlk])
        | (apply AWP.dE hmix [.n 0 [0], .n 1 [0], .n 2 [28], .n 3 [29], .n 4 [30], .n 5 [0], .n 6 [32], .n 7 [33], .n 8 [34], .n 9 [35], .n 10 [36], .w 11 [31, 37] [], .n 12 [27], .n 13 [39], .w 14 [40, 38] []]; (focus kernel_rfl); (focus (simp [go_sem]; exact ⟨rfl, rfl⟩)); try dsimp only [thn, inBlk])
        | fail)
      refine AWP.callE (by simp [go_sem]; exact ⟨rfl, rfl, rfl, rfl, rfl⟩) (by kernel_rfl) ?_
      refine (rub_calls kt (by omega) (by omega)).mono ?_
      rintro r h2 ⟨rfl, k5⟩
      refine awpL_restE (by simp [go_sem]; exact ⟨rfl, rfl⟩) ?_; try dsimp only [thn, inBlk]
      by_cases ht : t.line = []
      · have e0 : t.line.isEmpty = true := by rw [ht]; rfl
        (repeat' first
          | refine AWP.seq ?_
          | refine AWP.block ?_
          | (refine AWP.skip ?_; try dsimp only [thn, inBlk])
          | (refine AWP.exit ?_; try simp only [thn, inBlk, if_true])
          | (refine AWP.ret ?_; try dsimp only [thn, inBlk])
          | (refine AWP.condT ?_ ?_; (focus (simp [go_sem, e0]; done)))
          | (refine AWP.condF ?_ ?_; (focus (simp [go_sem, e0]; done)))
          | (apply AWP.rE; (focus (simp [go_sem, e0]; exact ⟨rfl, rfl⟩)); try dsimp only [thn, inBlk])
          | (apply AWP.dE hmix [.n 0 [0], .n 1 [0], .n 2 [28], .n 3 [29], .n 4 [30], .n 5 [0], .n 6 [32], .n 7 [33], .n 8 [34], .n 9 [35], .n 10 [36], .w 11 [31, 37] [], .n 12 [27], .n 13 [39], .w 14 [40, 38] []]; (focus kernel_rfl); (focus (simp [go_sem, e0]; exact ⟨rfl, rfl⟩)); try dsimp only [thn, inBlk])
          | fail)
        simp [bodyQ, thn, inBlk, resA, resV, go_sem]
        rw [← ht3]
        have e1 : t.rub = t.kill := by obtain ⟨tl, te, ts, tw, tn⟩ := t; simp only at ht; subst ht; simp [Pt.rub, Pt.kill]
        rw [← e1]; exact k5
      · have e0 : t.line.isEmpty = false := by simpa using ht
        (repeat' first
          | refine AWP.seq ?_
          | refine AWP.block ?_
          | (refine AWP.skip ?_; try dsimp only [thn, inBlk])
          | (refine AWP.exit ?_; try simp only [thn, inBlk, if_true])
          | (refine AWP.ret ?_; try dsimp only [thn, inBlk])
          | (refine AWP.condT ?_ ?_; (focus (simp [go_sem, e0]; done)))
          | (refine AWP.condF ?_ ?_; (focus (simp [go_sem, e0]; done)))
          | (apply AWP.rE; (focus (simp [go_sem, e0]; exact ⟨rfl, rfl⟩)); try dsimp only [thn, inBlk])
          | (apply AWP.dE hmix [.n 0 [0], .n 1 [0], .n 2 [28], .n 3 [29], .n 4 [30], .n 5 [0], .n 6 [32], .n 7 [33], .n 8 [34], .n 9 [35], .n 10 [36], .w 11 [31, 37] [], .n 12 [27], .n 13 [39], .w 14 [40, 38] []]; (focus kernel_rfl); (focus (simp [go_sem, e0]; exact ⟨rfl, rfl⟩)); try dsimp only [thn, inBlk])
          | fail)
        have hl : 0 < t.line.length := List.length_pos_iff.2 ht
        rw [Pt.rub, if_neg ht] at k5
        refine ⟨t.line.length - 1, by omega, _, by simp [go_sem], by simp, by simp; omega, by simp; omega, ?_, k5⟩
        rw [← ht3]
        simp only [Pt.kill, List.length_dropLast]
        obtain ⟨m, hm⟩ : ∃ m, t.line.length = m + 1 := ⟨t.line.length - 1, by omega⟩
        rw [hm, List.replicate_succ, List.flatten_cons, Nat.add_sub_cancel]
        simp
  rw [if_neg h21]
  have n21 : ¬ (c.toNat : Int) = 21 := fun e => h21 (UInt8.toNat_inj.1 (Int.ofNat.inj e))
  by_cases h3 : c = 3
  · subst h3
    rw [if_pos rfl]
    have w1 : IntKind.i64.wrap ((s.stops : Int) + 1) = s.stops + 1 := wI64 (by omega) (by omega)
    have k4 := (k0.set (prow (.slice none 0 0) false s.stops (.slice aw s.shown.length cw) (.slice an s.lines.length cn))).set (prow (.slice none 0 0) false (s.stops + 1) (.slice aw s.shown.length cw) (.slice an s.lines.length cn))
    have k5 := ((k4.d1.nil 5 1).b1).push (.row [.int .u8 94, .int .u8 67, .int .u8 13, .int .u8 10] 5 1 true false)
    (repeat' first
      | refine AWP.seq ?_
      | refine AWP.block ?_
      | (refine AWP.skip ?_; try dsimp only [thn, inBlk])
      | (refine AWP.exit ?_; try simp only [thn, inBlk, if_true])
      | (refine AWP.ret ?_; try dsimp only [thn, inBlk])
      | (refine AWP.condT ?_ ?_; (focus (simp [go_sem, c1, B, w1]; done)))
      | (refine AWP.condF ?_ ?_; (focus (simp [go_sem, c1, B, w1]; done)))
      | (apply AWP.rE; (focus (simp [go_sem, c1, B, w1]; exact ⟨rfl, rfl⟩)); try dsimp only [thn, inBlk])
      | (apply AWP.dE hmix [.n 0 [0], .n 1 [0], .n 2 [28], .n 3 [29], .n 4 [30], .n 5 [0], .n 6 [32], .n 7 [33], .n 8 [34], .n 9 [35], .n 10 [36], .w 11 [31, 37] [], .n 12 [27], .n 13 [39], .w 14 [40, 38] []]; (focus kernel_rfl); (focus (simp [go_sem, c1, B, w1]; exact ⟨rfl, rfl⟩)); try dsimp only [thn, inBlk])
      | fail)
    refine AWP.callE (by simp [go_sem]; exact ⟨rfl, rfl, rfl, rfl, rfl⟩) (by kernel_rfl) ?_
    refine (show_calls (shown := s.shown) (k5.b3.b2) (bs := [94, 67, 13, 10]) (fun h k => row_bytes k rfl) (by simp; omega)).mono ?_
    rintro r h' ⟨vs', k6⟩
    refine awpL_restE (by simp [go_sem]; exact ⟨rfl, rfl⟩) ?_; try dsimp only [thn, inBlk]
    (repeat' first
      | refine AWP.seq ?_
      | refine AWP.block ?_
      | (refine AWP.skip ?_; try dsimp only [thn, inBlk])
      | (refine AWP.exit ?_; try simp only [thn, inBlk, if_true])
      | (refine AWP.ret ?_; try dsimp only [thn, inBlk])
      | (refine AWP.condT ?_ ?_; (focus (simp [go_sem]; done)))
      | (refine AWP.condF ?_ ?_; (focus (simp [go_sem]; done)))
      | (apply AWP.rE; (focus (simp [go_sem]; exact ⟨rfl, rfl⟩)); try dsimp only [thn, inBlk])
      | (apply AWP.dE hmix [.n 0 [0], .n 1 [0], .n 2 [28], .n 3 [29], .n 4 [30], .n 5 [0], .n 6 [32], .n 7 [33], .n 8 [34], .n 9 [35], .n 10 [36], .w 11 [31, 37] [], .n 12 [27], .n 13 [39], .w 14 [40, 38] []]; (focus kernel_rfl); (focus (simp [go_sem]; exact ⟨rfl, rfl⟩)); try dsimp only [thn, inBlk])
      | fail)
    simp [bodyQ, thn, inBlk, resA, resV, go_sem]
    exact pty_mk (s := Pt.stop { s with entered := false }) (by simpa [Pt.stop, ob] using k6.b3.b1.d3)
  rw [if_neg h3]
  have n3 : ¬ (c.toNat : Int) = 3 := fun e => h3 (UInt8.toNat_inj.1 (Int.ofNat.inj e))
  (repeat' first
    | refine AWP.seq ?_
    | refine AWP.block ?_
    | (refine AWP.skip ?_; try dsimp only [thn, inBlk])
    | (refine AWP.exit ?_; try simp only [thn, inBlk, if_true])
    | (refine AWP.ret ?_; try dsimp only [thn, inBlk])
    | (refine AWP.condT ?_ ?_; (focus (simp [go_sem, c1, B, e13, n10, n13, n8, n127, n21, n3]; done)))
    | (refine AWP.condF ?_ ?_; (focus (simp [go_sem, c1, B, e13, n10, n13, n8, n127, n21, n3]; done)))
    | (apply AWP.rE; (focus (simp [go_sem, c1, B, e13, n10, n13, n8, n127, n21, n3]; exact ⟨rfl, rfl⟩)); try dsimp only [thn, inBlk])
    | (apply AWP.dE hmix [.n 0 [0], .n 1 [0], .n 2 [28], .n 3 [29], .n 4 [30], .n 5 [0], .n 6 [32], .n 7 [33], .n 8 [34], .n 9 [35], .n 10 [36], .w 11 [31, 37] [], .n 12 [27], .n 13 [39], .w 14 [40, 38] []]; (focus kernel_rfl); (focus (simp [go_sem, c1, B, e13, n10, n13, n8, n127, n21, n3]; exact ⟨rfl, rfl⟩)); try dsimp only [thn, inBlk])
    | fail)
  refine AWP.callE (by simp [go_sem]; exact ⟨rfl, rfl, rfl, rfl, rfl⟩) (by kernel_rfl) ?_
  refine (plain_calls (c := c) k9 (by simp; omega) (by simp; omega)).mono ?_
  rintro r h' k5
  refine awpL_restE (by simp [go_sem]; exact ⟨rfl, rfl⟩) ?_; try dsimp only [thn, inBlk]
  (repeat' first
    | refine AWP.seq ?_
    | refine AWP.block ?_
    | (refine AWP.skip ?_; try dsimp only [thn, inBlk])
    | (refine AWP.exit ?_; try simp only [thn, inBlk, if_true])
    | (refine AWP.ret ?_; try dsimp only [thn, inBlk])
    | (refine AWP.condT ?_ ?_; (focus (simp [go_sem]; done)))
    | (refine AWP.condF ?_ ?_; (focus (simp [go_sem]; done)))
    | (apply AWP.rE; (focus (simp [go_sem]; exact ⟨rfl, rfl⟩)); try dsimp only [thn, inBlk])
    | (apply AWP.dE hmix [.n 0 [0], .n 1 [0], .n 2 [28], .n 3 [29], .n 4 [30], .n 5 [0], .n 6 [32], .n 7 [33], .n 8 [34], .n 9 [35], .n 10 [36], .w 11 [31, 37] [], .n 12 [27], .n 13 [39], .w 14 [40, 38] []]; (focus kernel_rfl); (focus (simp [go_sem]; exact ⟨rfl, rfl⟩)); try dsimp only [thn, inBlk])
    | fail)
  simp [bodyQ, thn, inBlk, resA, resV, go_sem]
  exact k5
end L21
