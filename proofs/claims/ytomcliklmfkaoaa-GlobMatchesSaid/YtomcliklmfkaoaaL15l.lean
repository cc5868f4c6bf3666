import Derived.Test.YtomcliklmfkaoaaL15k
import Derived.Test.YtomcliklmfkaoaaL15g
import Derived.Test.YtomcliklmfkaoaaAbWalk3
open Go Ab Go.Proofs
namespace L15
set_option autoImplicit false
set_option linter.unusedSimpArgs false
set_option linter.unusedVariables false
attribute [local go_sem] rec_okAll rec_setL rec_len rec_take rec_0 rec_257 rec_258 rec_ok rec_set0 rec_set257 rec_set258

def rb (p : Pt) : UInt8 := if p.kd = 0 then pb p else 0
def rpt (p : Pt) : List Value := rec (fits p) (decide (p.kd = 3)) (decide (p.kd = 0)) (rb p)
theorem rp_len (p : Pt) : (rpt p).length = 259 := rec_len
abbrev rps (v : Value) (ps : List Pt) : Chunk := os 47 259 v ps.length (ps.map rpt).flatten
theorem build1 {id : Nat} {g : UInt8 → Bool} {r p : Bool} {b : UInt8} : buildSliceA Try.prog id 34 1 [(0, .agg (rec g r p b).toArray)] = some (.slice (some ⟨id, 0, none⟩) 1 1, .row (rec g r p b) 47 259 true false) :=
  buildSlice1 (z := .agg zrec.toArray) Try.underlying34 tsz47 tz47 (by omega) (by simp only [Value.cells, List.size_toArray, rec_len]; omega) (by omega) (by simp only [Value.cells]; exact rec_const) rec_len
theorem zsize : (Value.agg zrec.toArray).cells.size = 259 := by simp only [Value.cells, List.size_toArray]; exact rec_len

theorem build0 {id : Nat} : buildSliceA Try.prog id 34 0 [] = some (.slice (some ⟨id, 0, none⟩) 0 0, .row [] 47 259 true false) := by
  rw [buildSliceA_nil]
  simp only [Try.underlying34, tsz47, tz47]
  rw [if_pos ⟨by omega, by rw [zsize]; omega, by omega, by simp only [Value.cells]; exact rec_const⟩]
  simp [Instr.fill, zeros]


theorem cls_kd {s r : List UInt8} {p : Pt} (h : cls s = some (p, r)) : p.kd = 2 := by
  unfold cls at h
  split at h
  · cases h
  · split at h
    · cases h
    · cases h; rfl

set_option maxHeartbeats 8000000 in
theorem refParse_calls {O : Old} {h : AHeap} {R : List Chunk} {s : List UInt8} (k : Own O h R) (hl : s.length ≤ 1000000) :
    ACalls Try.prog 14 #[.string ⟨s.toArray⟩] h fun v h' => ∃ a c, v = .tuple #[.slice a (parseR s).1.length c, .int .i64 (parseR s).2] ∧ Own O h' (rps (.slice a (parseR s).1.length c) (parseR s).1 :: R) := by
  refine ACalls.of_awp (args := [.string ⟨s.toArray⟩]) (n := 76) Try.func14 rfl rfl (by show 1 ≤ 76; omega) ?_
  have k1 := k.push (.row [] 47 259 true false)
  have k2 : Own O _ (rps (.slice (some ⟨h.next, 0, none⟩) 0 0) [] :: R) := k1.os_mk (n := 0) (cap := 0) (off := 0) (cs := []) (Nat.le_refl _) (by simp) (by rfl)
  by_cases h32 : 32 < s.length
  · have h32' : (32 : Int) < s.length := by omega
    have e : parseR s = ([], 23) := by simp [parseR, h32]
    rw [e]
    (repeat' first
      | refine AWP.seq ?_
      | refine AWP.block ?_
      | (refine AWP.skip ?_; try dsimp only [thn, inBlk])
      | (refine AWP.exit ?_; try simp only [thn, inBlk, if_true, reduceIte, Nat.reduceEqDiff])
      | (refine AWP.ret ?_; try dsimp only [thn, inBlk])
      | (refine AWP.condT ?_ ?_; (focus (simp [go_sem, h32', ↓build0]; done)))
      | (refine AWP.condF ?_ ?_; (focus (simp [go_sem, h32', ↓build0]; done)))
      | (apply AWP.rE; (focus (simp [go_sem, h32', ↓build0]; exact ⟨rfl, rfl⟩)); try dsimp only [thn, inBlk])
      | fail)
    simp [bodyQ, thn, inBlk, resA, resV, go_sem]
    exact ⟨_, _, ⟨rfl, rfl⟩, k2⟩
  have h32' : ¬ (32 : Int) < s.length := by omega
  have e : parseR s = match prs s with | none => ([], 21) | some ps => (ps, 0) := by unfold parseR; rw [if_neg h32]; cases prs s <;> rfl
  rw [e]
  (repeat' first
    | refine AWP.seq ?_
    | refine AWP.block ?_
    | (refine AWP.skip ?_; try dsimp only [thn, inBlk])
    | (refine AWP.exit ?_; try simp only [thn, inBlk, if_true, reduceIte, Nat.reduceEqDiff])
    | (refine AWP.ret ?_; try dsimp only [thn, inBlk])
    | (refine AWP.condT ?_ ?_; (focus (simp [go_sem, h32', ↓build0]; done)))
    | (refine AWP.condF ?_ ?_; (focus (simp [go_sem, h32', ↓build0]; done)))
    | (apply AWP.rE; (focus (simp [go_sem, h32', ↓build0]; exact ⟨rfl, rfl⟩)); try dsimp only [thn, inBlk])
    | fail)
  refine AWP.loopR [0, 4, 5] (fun m s' h' => ∃ (l : List UInt8) (acc : List Pt) (a3 : Nat) (a : Option Addr) (c : Nat), m = l.length ∧ s.drop a3 = l ∧ a3 ≤ s.length ∧ prs s = (prs l).map (fun q => acc ++ q) ∧ l.length + acc.length ≤ 32 ∧ s' = ⟨76, [(0, .string ⟨s.toArray⟩), (4, .slice a acc.length c), (5, .int .i64 a3)]⟩ ∧
    Own O h' (rps (.slice a acc.length c) acc :: R)) ?_ ?_
  · exact ⟨_, s, [], 0, _, _, rfl, rfl, by omega, by simp, by simp; omega, by simp [go_sem], k2⟩
  rintro m s' h3 ⟨l, acc, at3, va, vc, rfl, hd3, ha3, hpr, hlen, rfl, kt⟩
  match hlm : l with
  | [] =>
    rw [prs_fin (s := []) rfl] at hpr
    simp only [Option.map_some, List.append_nil] at hpr
    rw [hpr]
    have i0 := at_nil hd3
    (repeat' first
      | refine AWP.seq ?_
      | refine AWP.block ?_
      | (refine AWP.skip ?_; try dsimp only [thn, inBlk])
      | (refine AWP.exit ?_; try simp only [thn, inBlk, if_true, reduceIte, Nat.reduceEqDiff])
      | (refine AWP.ret ?_; try dsimp only [thn, inBlk])
      | (refine AWP.condT ?_ ?_; (focus (simp [go_sem, i0]; done)))
      | (refine AWP.condF ?_ ?_; (focus (simp [go_sem, i0]; done)))
      | (apply AWP.rE; (focus (simp [go_sem, i0]; exact ⟨rfl, rfl⟩)); try dsimp only [thn, inBlk])
      | fail)
    simp [bodyQ, thn, inBlk, resA, resV, go_sem]
    exact ⟨_, _, ⟨rfl, rfl⟩, kt⟩
  | c :: t =>
    obtain ⟨i0, i1, i2, i3⟩ := at_cons hd3
    have w3 : IntKind.i64.wrap ((at3 : Int) + 1) = ((at3 + 1 : Nat) : Int) := wnat (by omega)
    generalize h4 : at3 + 1 = a4 at *
    have hlL : t.length + 1 = (c :: t : List UInt8).length := by simp
    have htok := tok_cons c t
    have kz := kt.push (.row zrec 47 259 true false)
    by_cases h42 : c = 42
    · have g42 : ((c.toNat : Int) == 42) = true := by rw [h42]; rfl
      have ht : tok (c :: t) = .one runP t := by rw [htok, if_pos h42]
      have kk := kt.push (.row (rec (fun _ => false) true false 0) 47 259 true false)
      have hh9 : ∃ h9, h9 = h3.push (.row (rec (fun _ => false) true false 0) 47 259 true false) := ⟨_, rfl⟩
      obtain ⟨h9, hh9⟩ := hh9
      rw [← hh9] at kk
      have hrow : rpt runP = rec (fun _ => false) true false 0 := rfl
      have hRR := i2
      have hAT := i3
      generalize hll : (c :: t) = l at *
      have c8 := kk.obj
      rw [prs_one (s := l) ht] at hpr
      have K0 : Own O h9 (os 47 259 (.slice va acc.length vc) acc.length (acc.map rpt).flatten :: (cell h3.next (.row (rec (fun _ => false) true false 0) 47 259 true false) :: R)) := by (refine Own.sbl ?_ (kk); repeat' first | exact Sbl.nil _ | with_reducible exact Sbl.rfl _ | (apply Sbl.cons) | (apply Sbl.skip) | with_reducible exact Fnd.head _ _ | (apply Fnd.tail))
      obtain ⟨na, nc, h7, e7, k7⟩ := Own.appN (P := Try.prog) (t := 34) (xt := 34) (m := 1) (xs := (rec (fun _ => false) true false 0)) (i := h9.next) Try.underlying34 tsz47 tby47 tz47 nI34 (by omega) (by omega) zsize K0 rfl rec_len rec_ok (by omega)
      have b1 := build1 (id := h9.next) (g := (fun _ => false)) (r := true) (p := false) (b := 0)
      rw [hh9] at e7 c8 b1
      simp only [push_next] at e7 c8 b1
      (repeat' first
        | refine AWP.seq ?_
        | refine AWP.block ?_
        | (refine AWP.skip ?_; try dsimp only [thn, inBlk])
        | (refine AWP.exit ?_; try simp only [thn, inBlk, if_true, reduceIte, Nat.reduceEqDiff])
        | (refine AWP.ret ?_; try dsimp only [thn, inBlk])
        | (refine AWP.condT ?_ ?_; (focus (simp [go_sem, i0, i1, g42, w3, ↓allocZ, ↓buildZ, ↓b1, c8, e7]; done)))
        | (refine AWP.condF ?_ ?_; (focus (simp [go_sem, i0, i1, g42, w3, ↓allocZ, ↓buildZ, ↓b1, c8, e7]; done)))
        | (apply AWP.rE; (focus (simp [go_sem, i0, i1, g42, w3, ↓allocZ, ↓buildZ, ↓b1, c8, e7]; exact ⟨rfl, rfl⟩)); try dsimp only [thn, inBlk])
        | fail)
      refine ⟨(t : List UInt8).length, by omega, t, acc ++ [runP], a4, na, nc, rfl, hRR, hAT, ?_, ?_, ?_, ?_⟩
      · rw [hpr]; cases prs (t : List UInt8) <;> simp
      · simp; omega
      · simp [go_sem]
      · have e9 : (acc ++ [runP]).length = acc.length + 1 := by simp
        have e8 : ((acc ++ [runP]).map rpt).flatten = (acc.map rpt).flatten ++ rpt runP := by simp
        show Own O _ (os 47 259 _ _ _ :: _)
        rw [e9, e8, hrow]
        exact k7.sbl (by repeat' first | exact Sbl.nil _ | with_reducible exact Sbl.rfl _ | (apply Sbl.cons) | (apply Sbl.skip) | with_reducible exact Fnd.head _ _ | (apply Fnd.tail))
    have g42 : ((c.toNat : Int) == 42) = false := neI (d := 42) h42
    by_cases h63 : c = 63
    · have g63 : ((c.toNat : Int) == 63) = true := by rw [h63]; rfl
      have ht : tok (c :: t) = .one anyP t := by rw [htok, if_neg h42, if_pos h63]
      have hRR := i2
      have hAT := i3
      generalize hll : (c :: t) = l at *
      (repeat' first
        | refine AWP.seq ?_
        | refine AWP.block ?_
        | (refine AWP.skip ?_; try dsimp only [thn, inBlk])
        | (refine AWP.exit ?_; try simp only [thn, inBlk, if_true, reduceIte, Nat.reduceEqDiff])
        | (refine AWP.ret ?_; try dsimp only [thn, inBlk])
        | (refine AWP.condT ?_ ?_; (focus (simp [go_sem, i0, i1, g42, g63, w3, ↓allocZ, ↓buildZ]; done)))
        | (refine AWP.condF ?_ ?_; (focus (simp [go_sem, i0, i1, g42, g63, w3, ↓allocZ, ↓buildZ]; done)))
        | (apply AWP.rE; (focus (simp [go_sem, i0, i1, g42, g63, w3, ↓allocZ, ↓buildZ]; exact ⟨rfl, rfl⟩)); try dsimp only [thn, inBlk])
        | fail)
      refine AWP.loopR [0, 4, 5, 7, 8] (fun m s' h' => ∃ x : Nat, x ≤ 256 ∧ m = 256 - x ∧ s' = ⟨76, [(0, .string ⟨s.toArray⟩), (4, .slice va acc.length vc), (5, .int .i64 a4), (7, .pointer (some ⟨h3.next, 0, none⟩)), (8, .int .i64 x)]⟩ ∧
        Own O h' (cell h3.next (.row (rec (fun c => decide (c.toNat < x)) false false 0) 47 259 true false) :: rps (.slice va acc.length vc) acc :: R)) ?_ ?_
      · exact ⟨_, 0, by omega, rfl, by simp [go_sem], by simpa using kz⟩
      rintro m s' h9 ⟨x, hx1, rfl, rfl, kk⟩
      have c8 := kk.obj
      by_cases hx3 : x < 256
      · have hx4 : (x : Int) < 256 := by omega
        have wx : IntKind.i64.wrap ((x : Int) + 1) = ((x + 1 : Nat) : Int) := wnat (by omega)
        have hx8 : 1 + x ≤ 258 := by omega
        have rs := rec_set (g := fun c => decide (c.toNat < x)) (r := false) (p := false) (b := 0) (x := true) hx3
        have e1 : (fun c : UInt8 => if c.toNat = x then true else decide (c.toNat < x)) = fun c => decide (c.toNat < x + 1) := by
          funext c
          by_cases h1 : c.toNat = x
          · simp [h1]
          · have h2 : (c.toNat < x + 1) ↔ (c.toNat < x) := by omega
            simp [h1, h2]
        rw [e1] at rs
        have kz2 := kk.set (.row (rec (fun c => decide (c.toNat < x + 1)) false false 0) 47 259 true false)
        have zl := rec_len (g := fun c => decide (c.toNat < x)) (r := false) (p := false) (b := 0)
        generalize (rec (fun c => decide (c.toNat < x)) false false 0) = Z1 at *
        (repeat' first
          | refine AWP.seq ?_
          | refine AWP.block ?_
          | (refine AWP.skip ?_; try dsimp only [thn, inBlk])
          | (refine AWP.exit ?_; try simp only [thn, inBlk, if_true, reduceIte, Nat.reduceEqDiff])
          | (refine AWP.ret ?_; try dsimp only [thn, inBlk])
          | (refine AWP.condT ?_ ?_; (focus (simp [go_sem, hx3, hx4, hx8, c8, wx, zl, rs]; done)))
          | (refine AWP.condF ?_ ?_; (focus (simp [go_sem, hx3, hx4, hx8, c8, wx, zl, rs]; done)))
          | (apply AWP.rE; (focus (simp [go_sem, hx3, hx4, hx8, c8, wx, zl, rs]; exact ⟨rfl, rfl⟩)); try dsimp only [thn, inBlk])
          | fail)
        exact ⟨256 - (x + 1), by omega, x + 1, by omega, rfl, by simp [go_sem], kz2⟩
      have hx4 : ¬ (x : Int) < 256 := by omega
      have hrow : rpt anyP = rec (fun c => decide (c.toNat < x)) false false 0 := by
        have : fits anyP = fun c => decide (c.toNat < x) := by
          funext c
          have h1 := c.toNat_lt
          have h2 : c.toNat < x := by omega
          simp [fits, anyP, h2]
        unfold rpt
        rw [this]; rfl
      rw [prs_one (s := l) ht] at hpr
      have K0 : Own O h9 (os 47 259 (.slice va acc.length vc) acc.length (acc.map rpt).flatten :: (cell h3.next (.row (rec (fun c => decide (c.toNat < x)) false false 0) 47 259 true false) :: R)) := by (refine Own.sbl ?_ (kk); repeat' first | exact Sbl.nil _ | with_reducible exact Sbl.rfl _ | (apply Sbl.cons) | (apply Sbl.skip) | with_reducible exact Fnd.head _ _ | (apply Fnd.tail))
      obtain ⟨na, nc, h7, e7, k7⟩ := Own.appN (P := Try.prog) (t := 34) (xt := 34) (m := 1) (xs := (rec (fun c => decide (c.toNat < x)) false false 0)) (i := h9.next) Try.underlying34 tsz47 tby47 tz47 nI34 (by omega) (by omega) zsize K0 rfl rec_len rec_ok (by omega)
      have b1 := build1 (id := h9.next) (g := (fun c => decide (c.toNat < x))) (r := false) (p := false) (b := 0)
      (repeat' first
        | refine AWP.seq ?_
        | refine AWP.block ?_
        | (refine AWP.skip ?_; try dsimp only [thn, inBlk])
        | (refine AWP.exit ?_; try simp only [thn, inBlk, if_true, reduceIte, Nat.reduceEqDiff])
        | (refine AWP.ret ?_; try dsimp only [thn, inBlk])
        | (refine AWP.condT ?_ ?_; (focus (simp [go_sem, hx3, hx4, c8, e7, ↓b1]; done)))
        | (refine AWP.condF ?_ ?_; (focus (simp [go_sem, hx3, hx4, c8, e7, ↓b1]; done)))
        | (apply AWP.rE; (focus (simp [go_sem, hx3, hx4, c8, e7, ↓b1]; exact ⟨rfl, rfl⟩)); try dsimp only [thn, inBlk])
        | fail)
      refine ⟨(t : List UInt8).length, by omega, t, acc ++ [anyP], a4, na, nc, rfl, hRR, hAT, ?_, ?_, ?_, ?_⟩
      · rw [hpr]; cases prs (t : List UInt8) <;> simp
      · simp; omega
      · simp [go_sem]
      · have e9 : (acc ++ [anyP]).length = acc.length + 1 := by simp
        have e8 : ((acc ++ [anyP]).map rpt).flatten = (acc.map rpt).flatten ++ rpt anyP := by simp
        show Own O _ (os 47 259 _ _ _ :: _)
        rw [e9, e8, hrow]
        exact k7.sbl (by repeat' first | exact Sbl.nil _ | with_reducible exact Sbl.rfl _ | (apply Sbl.cons) | (apply Sbl.skip) | with_reducible exact Fnd.head _ _ | (apply Fnd.tail))
    have g63 : ((c.toNat : Int) == 63) = false := neI (d := 63) h63
    by_cases h91 : c = 91
    · have g91 : ((c.toNat : Int) == 91) = true := by rw [h91]; rfl
      rw [if_neg h42, if_neg h63, if_pos h91] at htok
      (repeat' first
        | refine AWP.seq ?_
        | refine AWP.block ?_
        | (refine AWP.skip ?_; try dsimp only [thn, inBlk])
        | (refine AWP.exit ?_; try simp only [thn, inBlk, if_true, reduceIte, Nat.reduceEqDiff])
        | (refine AWP.ret ?_; try dsimp only [thn, inBlk])
        | (refine AWP.condT ?_ ?_; (focus (simp [go_sem, i0, i1, g42, g63, g91, w3, ↓allocZ, ↓buildZ]; done)))
        | (refine AWP.condF ?_ ?_; (focus (simp [go_sem, i0, i1, g42, g63, g91, w3, ↓allocZ, ↓buildZ]; done)))
        | (apply AWP.rE; (focus (simp [go_sem, i0, i1, g42, g63, g91, w3, ↓allocZ, ↓buildZ]; exact ⟨rfl, rfl⟩)); try dsimp only [thn, inBlk])
        | fail)
      refine AWP.callE (by simp [go_sem]; exact ⟨rfl, rfl, rfl, rfl, rfl⟩) (by kernel_rfl) ?_
      refine (refClass_calls (s := s) (at_ := a4) kz (by omega) i3).mono ?_
      rintro v h5 ⟨k5, hv⟩
      rw [i2] at hv
      have hh9 : ∃ hb, hb = h3.next := ⟨_, rfl⟩
      cases hcl : cls t with
      | none =>
        rw [hcl] at hv htok
        obtain ⟨g, rfl⟩ := hv
        rw [prs_bad (s := c :: t) htok] at hpr
        simp only [Option.map_none] at hpr
        rw [hpr]
        have k6 := k5.push (.row (rec g false false 0) 47 259 true false)
        have k7 := (k6.push (.row [] 47 259 true false)).tail.tail.tail.tail
        refine awpL_restE (by simp [go_sem, ↓allocZ]; exact ⟨rfl, rfl⟩) ?_; try dsimp only [thn, inBlk]
        (repeat' first
          | refine AWP.seq ?_
          | refine AWP.block ?_
          | (refine AWP.skip ?_; try dsimp only [thn, inBlk])
          | (refine AWP.exit ?_; try simp only [thn, inBlk, if_true, reduceIte, Nat.reduceEqDiff])
          | (refine AWP.ret ?_; try dsimp only [thn, inBlk])
          | (refine AWP.condT ?_ ?_; (focus (simp [go_sem, ↓build0]; done)))
          | (refine AWP.condF ?_ ?_; (focus (simp [go_sem, ↓build0]; done)))
          | (apply AWP.rE; (focus (simp [go_sem, ↓build0]; exact ⟨rfl, rfl⟩)); try dsimp only [thn, inBlk])
          | fail)
        simp [bodyQ, thn, inBlk, resA, resV, go_sem]
        have k8 : Own O _ (rps (.slice (some ⟨h5.next + 1, 0, none⟩) 0 0) [] :: _) := (k6.push (.row [] 47 259 true false)).os_mk (n := 0) (cap := 0) (off := 0) (cs := []) (Nat.le_refl _) (by simp) (by rfl)
        refine ⟨_, _, ⟨rfl, rfl⟩, ?_⟩
        (refine Own.sbl ?_ (k8); repeat' first | exact Sbl.nil _ | with_reducible exact Sbl.rfl _ | (apply Sbl.cons) | (apply Sbl.skip) | with_reducible exact Fnd.head _ _ | (apply Fnd.tail))
      | some q =>
        obtain ⟨p, r⟩ := q
        rw [hcl] at hv htok
        obtain ⟨at2, hat2, hr2, rfl⟩ := hv
        have ht : tok (c :: t) = .one p r := htok
        have hRR := hr2.symm
        have hAT := hat2
        have hlr := (tok_len ht).1
        generalize hll : (c :: t) = l at *
        have hrow : rpt p = rec (fits p) false false 0 := by
          have h0 : p.kd = 2 := cls_kd hcl
          unfold rpt rb
          rw [h0]; rfl
        have kk := (k5.push (.row (rec (fits p) false false 0) 47 259 true false)).b1.set (.row (rec (fits p) false false 0) 47 259 true false)
        have hh9 : ∃ h9, h9 = (h5.push (.row (rec (fits p) false false 0) 47 259 true false)).set h3.next (.row (rec (fits p) false false 0) 47 259 true false) := ⟨_, rfl⟩
        obtain ⟨h9, hh9⟩ := hh9
        rw [← hh9] at kk
        have c8 := kk.obj
        have c7 := (k5.push (.row (rec (fits p) false false 0) 47 259 true false)).obj
        have c6 := (k5.push (.row (rec (fits p) false false 0) 47 259 true false)).b1.obj
        rw [prs_one (s := l) ht] at hpr
        have K0 : Own O h9 (os 47 259 (.slice va acc.length vc) acc.length (acc.map rpt).flatten :: (cell h3.next (.row (rec (fits p) false false 0) 47 259 true false) :: cell h5.next (.row (rec (fits p) false false 0) 47 259 true false) :: R)) := by (refine Own.sbl ?_ (kk); repeat' first | exact Sbl.nil _ | with_reducible exact Sbl.rfl _ | (apply Sbl.cons) | (apply Sbl.skip) | with_reducible exact Fnd.head _ _ | (apply Fnd.tail))
        obtain ⟨na, nc, h7, e7, k7⟩ := Own.appN (P := Try.prog) (t := 34) (xt := 34) (m := 1) (xs := (rec (fits p) false false 0)) (i := h9.next) Try.underlying34 tsz47 tby47 tz47 nI34 (by omega) (by omega) zsize K0 rfl rec_len rec_ok (by omega)
        have b1 := build1 (id := h9.next) (g := (fits p)) (r := false) (p := false) (b := 0)
        rw [hh9] at e7 c8 b1
        simp only [set_next, push_next] at e7 c8 b1
        refine awpL_restE (by simp [go_sem, ↓allocZ]; exact ⟨rfl, rfl⟩) ?_; try dsimp only [thn, inBlk]
        (repeat' first
          | refine AWP.seq ?_
          | refine AWP.block ?_
          | (refine AWP.skip ?_; try dsimp only [thn, inBlk])
          | (refine AWP.exit ?_; try simp only [thn, inBlk, if_true, reduceIte, Nat.reduceEqDiff])
          | (refine AWP.ret ?_; try dsimp only [thn, inBlk])
          | (refine AWP.condT ?_ ?_; (focus (simp [go_sem, ↓b1, c6, c7, c8, e7]; done)))
          | (refine AWP.condF ?_ ?_; (focus (simp [go_sem, ↓b1, c6, c7, c8, e7]; done)))
          | (apply AWP.rE; (focus (simp [go_sem, ↓b1, c6, c7, c8, e7]; exact ⟨rfl, rfl⟩)); try dsimp only [thn, inBlk])
          | fail)
        refine ⟨(r : List UInt8).length, by omega, r, acc ++ [p], at2, na, nc, rfl, hRR, hAT, ?_, ?_, ?_, ?_⟩
        · rw [hpr]; cases prs (r : List UInt8) <;> simp
        · simp; omega
        · simp [go_sem]
        · have e9 : (acc ++ [p]).length = acc.length + 1 := by simp
          have e8 : ((acc ++ [p]).map rpt).flatten = (acc.map rpt).flatten ++ rpt p := by simp
          show Own O _ (os 47 259 _ _ _ :: _)
          rw [e9, e8, hrow]
          exact k7.sbl (by repeat' first | exact Sbl.nil _ | with_reducible exact Sbl.rfl _ | (apply Sbl.cons) | (apply Sbl.skip) | with_reducible exact Fnd.head _ _ | (apply Fnd.tail))
    have g91 : ((c.toNat : Int) == 91) = false := neI (d := 91) h91
    rw [if_neg h42, if_neg h63, if_neg h91] at htok
    by_cases h92 : c = 92
    · have g92 : ((c.toNat : Int) == 92) = true := by rw [h92]; rfl
      rw [if_pos h92] at htok
      cases t with
      | nil =>
        rw [prs_bad (s := [c]) htok] at hpr
        simp only [Option.map_none] at hpr
        rw [hpr]
        have j0 := at_nil i2
        have j1 : (s.length : Int) ≤ a4 := by omega
        (repeat' first
          | refine AWP.seq ?_
          | refine AWP.block ?_
          | (refine AWP.skip ?_; try dsimp only [thn, inBlk])
          | (refine AWP.exit ?_; try simp only [thn, inBlk, if_true, reduceIte, Nat.reduceEqDiff])
          | (refine AWP.ret ?_; try dsimp only [thn, inBlk])
          | (refine AWP.condT ?_ ?_; (focus (simp [go_sem, i0, i1, g42, g63, g91, g92, w3, j1, ↓allocZ, ↓buildZ, ↓build0]; done)))
          | (refine AWP.condF ?_ ?_; (focus (simp [go_sem, i0, i1, g42, g63, g91, g92, w3, j1, ↓allocZ, ↓buildZ, ↓build0]; done)))
          | (apply AWP.rE; (focus (simp [go_sem, i0, i1, g42, g63, g91, g92, w3, j1, ↓allocZ, ↓buildZ, ↓build0]; exact ⟨rfl, rfl⟩)); try dsimp only [thn, inBlk])
          | fail)
        simp [bodyQ, thn, inBlk, resA, resV, go_sem]
        have k8 : Own O _ (rps (.slice (some ⟨h3.next + 1, 0, none⟩) 0 0) [] :: _) := (kz.push (.row [] 47 259 true false)).os_mk (n := 0) (cap := 0) (off := 0) (cs := []) (Nat.le_refl _) (by simp) (by rfl)
        refine ⟨_, _, ⟨rfl, rfl⟩, ?_⟩
        (refine Own.sbl ?_ (k8); repeat' first | exact Sbl.nil _ | with_reducible exact Sbl.rfl _ | (apply Sbl.cons) | (apply Sbl.skip) | with_reducible exact Fnd.head _ _ | (apply Fnd.tail))
      | cons x r =>
        have ht : tok (c :: x :: r) = .one (lit x) r := htok
        obtain ⟨j0, j1, j2, j3⟩ := at_cons i2
        have j5 : ¬ (s.length : Int) ≤ a4 := by omega
        have w4 : IntKind.i64.wrap ((a4 : Int) + 1) = ((a4 + 1 : Nat) : Int) := wnat (by omega)
        generalize h5 : a4 + 1 = a5 at *
        have hRR := j2
        have hAT := j3
        have hlr : r.length < (c :: x :: r).length := by simp; omega
        generalize hll : (c :: x :: r) = l at *
        have hx3 := x.toNat_lt
        have hx8 : 1 + x.toNat ≤ 258 := by omega
        have hx9 : x.toNat < 256 := by omega
        have hx4 : (x.toNat : Int) < 256 := by omega
        have rs := rec_set (g := fun _ => false) (r := false) (p := false) (b := 0) (x := true) hx9
        have e1 : (fun d : UInt8 => if d.toNat = x.toNat then true else false) = fits (lit x) := by
          funext d
          rw [fits_lit]
          by_cases h : d.toNat = x.toNat
          · have h' : x = d := (UInt8.toNat_inj.1 h).symm
            rw [if_pos h]; simp [h']
          · rw [if_neg h]; simp; exact fun e => h (by rw [e])
        rw [e1] at rs
        have hrow : rpt (lit x) = rec (fits (lit x)) false true x := rfl
        have kk := kt.push (.row (rec (fits (lit x)) false true x) 47 259 true false)
        have hh9 : ∃ h9, h9 = h3.push (.row (rec (fits (lit x)) false true x) 47 259 true false) := ⟨_, rfl⟩
        obtain ⟨h9, hh9⟩ := hh9
        rw [← hh9] at kk
        have c8 := kk.obj
        rw [prs_one (s := l) ht] at hpr
        have K0 : Own O h9 (os 47 259 (.slice va acc.length vc) acc.length (acc.map rpt).flatten :: (cell h3.next (.row (rec (fits (lit x)) false true x) 47 259 true false) :: R)) := by (refine Own.sbl ?_ (kk); repeat' first | exact Sbl.nil _ | with_reducible exact Sbl.rfl _ | (apply Sbl.cons) | (apply Sbl.skip) | with_reducible exact Fnd.head _ _ | (apply Fnd.tail))
        obtain ⟨na, nc, h7, e7, k7⟩ := Own.appN (P := Try.prog) (t := 34) (xt := 34) (m := 1) (xs := (rec (fits (lit x)) false true x)) (i := h9.next) Try.underlying34 tsz47 tby47 tz47 nI34 (by omega) (by omega) zsize K0 rfl rec_len rec_ok (by omega)
        have b1 := build1 (id := h9.next) (g := (fits (lit x))) (r := false) (p := true) (b := x)
        rw [hh9] at e7 c8 b1
        simp only [push_next] at e7 c8 b1
        (repeat' first
          | refine AWP.seq ?_
          | refine AWP.block ?_
          | (refine AWP.skip ?_; try dsimp only [thn, inBlk])
          | (refine AWP.exit ?_; try simp only [thn, inBlk, if_true, reduceIte, Nat.reduceEqDiff])
          | (refine AWP.ret ?_; try dsimp only [thn, inBlk])
          | (refine AWP.condT ?_ ?_; (focus (simp [go_sem, i0, i1, g42, g63, g91, g92, w3, w4, j0, j1, j5, ↓allocZ, ↓buildZ, hx4, hx8, hx9, rs, ↓b1, c8, e7]; done)))
          | (refine AWP.condF ?_ ?_; (focus (simp [go_sem, i0, i1, g42, g63, g91, g92, w3, w4, j0, j1, j5, ↓allocZ, ↓buildZ, hx4, hx8, hx9, rs, ↓b1, c8, e7]; done)))
          | (apply AWP.rE; (focus (simp [go_sem, i0, i1, g42, g63, g91, g92, w3, w4, j0, j1, j5, ↓allocZ, ↓buildZ, hx4, hx8, hx9, rs, ↓b1, c8, e7]; exact ⟨rfl, rfl⟩)); try dsimp only [thn, inBlk])
          | fail)
        refine ⟨(r : List UInt8).length, by omega, r, acc ++ [(lit x)], a5, na, nc, rfl, hRR, hAT, ?_, ?_, ?_, ?_⟩
        · rw [hpr]; cases prs (r : List UInt8) <;> simp
        · simp; omega
        · simp [go_sem]
        · have e9 : (acc ++ [(lit x)]).length = acc.length + 1 := by simp
          have e8 : ((acc ++ [(lit x)]).map rpt).flatten = (acc.map rpt).flatten ++ rpt (lit x) := by simp
          show Own O _ (os 47 259 _ _ _ :: _)
          rw [e9, e8, hrow]
          exact k7.sbl (by repeat' first | exact Sbl.nil _ | with_reducible exact Sbl.rfl _ | (apply Sbl.cons) | (apply Sbl.skip) | with_reducible exact Fnd.head _ _ | (apply Fnd.tail))
    · have g92 : ((c.toNat : Int) == 92) = false := neI (d := 92) h92
      rw [if_neg h92] at htok
      have ht : tok (c :: t) = .one (lit c) t := htok
      have hRR := i2
      have hAT := i3
      generalize hll : (c :: t) = l at *
      have hx3 := c.toNat_lt
      have hx8 : 1 + c.toNat ≤ 258 := by omega
      have hx9 : c.toNat < 256 := by omega
      have hx4 : (c.toNat : Int) < 256 := by omega
      have rs := rec_set (g := fun _ => false) (r := false) (p := false) (b := 0) (x := true) hx9
      have e1 : (fun d : UInt8 => if d.toNat = c.toNat then true else false) = fits (lit c) := by
        funext d
        rw [fits_lit]
        by_cases h : d.toNat = c.toNat
        · have h' : c = d := (UInt8.toNat_inj.1 h).symm
          rw [if_pos h]; simp [h']
        · rw [if_neg h]; simp; exact fun e => h (by rw [e])
      rw [e1] at rs
      have hrow : rpt (lit c) = rec (fits (lit c)) false true c := rfl
      have kk := kt.push (.row (rec (fits (lit c)) false true c) 47 259 true false)
      have hh9 : ∃ h9, h9 = h3.push (.row (rec (fits (lit c)) false true c) 47 259 true false) := ⟨_, rfl⟩
      obtain ⟨h9, hh9⟩ := hh9
      rw [← hh9] at kk
      have c8 := kk.obj
      rw [prs_one (s := l) ht] at hpr
      have K0 : Own O h9 (os 47 259 (.slice va acc.length vc) acc.length (acc.map rpt).flatten :: (cell h3.next (.row (rec (fits (lit c)) false true c) 47 259 true false) :: R)) := by (refine Own.sbl ?_ (kk); repeat' first | exact Sbl.nil _ | with_reducible exact Sbl.rfl _ | (apply Sbl.cons) | (apply Sbl.skip) | with_reducible exact Fnd.head _ _ | (apply Fnd.tail))
      obtain ⟨na, nc, h7, e7, k7⟩ := Own.appN (P := Try.prog) (t := 34) (xt := 34) (m := 1) (xs := (rec (fits (lit c)) false true c)) (i := h9.next) Try.underlying34 tsz47 tby47 tz47 nI34 (by omega) (by omega) zsize K0 rfl rec_len rec_ok (by omega)
      have b1 := build1 (id := h9.next) (g := (fits (lit c))) (r := false) (p := true) (b := c)
      rw [hh9] at e7 c8 b1
      simp only [push_next] at e7 c8 b1
      (repeat' first
        | refine AWP.seq ?_
        | refine AWP.block ?_
        | (refine AWP.skip ?_; try dsimp only [thn, inBlk])
        | (refine AWP.exit ?_; try simp only [thn, inBlk, if_true, reduceIte, Nat.reduceEqDiff])
        | (refine AWP.ret ?_; try dsimp only [thn, inBlk])
        | (refine AWP.condT ?_ ?_; (focus (simp [go_sem, i0, i1, g42, g63, g91, g92, w3, ↓allocZ, ↓buildZ, hx4, hx8, hx9, rs, ↓b1, c8, e7]; done)))
        | (refine AWP.condF ?_ ?_; (focus (simp [go_sem, i0, i1, g42, g63, g91, g92, w3, ↓allocZ, ↓buildZ, hx4, hx8, hx9, rs, ↓b1, c8, e7]; done)))
        | (apply AWP.rE; (focus (simp [go_sem, i0, i1, g42, g63, g91, g92, w3, ↓allocZ, ↓buildZ, hx4, hx8, hx9, rs, ↓b1, c8, e7]; exact ⟨rfl, rfl⟩)); try dsimp only [thn, inBlk])
        | fail)
      refine ⟨(t : List UInt8).length, by omega, t, acc ++ [(lit c)], a4, na, nc, rfl, hRR, hAT, ?_, ?_, ?_, ?_⟩
      · rw [hpr]; cases prs (t : List UInt8) <;> simp
      · simp; omega
      · simp [go_sem]
      · have e9 : (acc ++ [(lit c)]).length = acc.length + 1 := by simp
        have e8 : ((acc ++ [(lit c)]).map rpt).flatten = (acc.map rpt).flatten ++ rpt (lit c) := by simp
        show Own O _ (os 47 259 _ _ _ :: _)
        rw [e9, e8, hrow]
        exact k7.sbl (by repeat' first | exact Sbl.nil _ | with_reducible exact Sbl.rfl _ | (apply Sbl.cons) | (apply Sbl.skip) | with_reducible exact Fnd.head _ _ | (apply Fnd.tail))
end L15
