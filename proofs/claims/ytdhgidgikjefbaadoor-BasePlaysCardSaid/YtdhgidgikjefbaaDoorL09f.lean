import Derived.Test.YtdhgidgikjefbaaDoorL09e
import Derived.Test.YtdhgidgikjefbaaDoorAbLibE
open Go Ab Go.Proofs
namespace L09
set_option autoImplicit false
set_option linter.unusedSimpArgs false
set_option linter.unusedVariables false

/-! ### Entries -/
structure En where
  nm : List UInt8
  ky : List UInt8
  life : Int
  flags : Int
  off : Bool
def k16 (ky : List UInt8) : List UInt8 := (ky ++ List.replicate 16 0).take 16
theorem k16_len (ky : List UInt8) : (k16 ky).length = 16 := by simp [k16]
theorem k16_of {ky : List UInt8} (h : ky.length = 16) : k16 ky = ky := by simp [k16, List.take_append_of_le_length, h]
def en (e : En) : List Value := tx e.nm :: ((k16 e.ky).map B ++ [.int .i64 e.life, .int .i64 e.flags, .bool e.off])
abbrev enV (e : En) : Value := .agg (en e).toArray
abbrev zE : En := ⟨[], [], 0, 0, false⟩
section
variable {e e' : En}
theorem en_len : (en e).length = 20 := by simp [en, k16_len]
theorem en_0 : (en e)[0]? = some (tx e.nm) := rfl
theorem en_17 : (en e)[17]? = some (.int .i64 e.life) := by
  unfold en
  rw [List.getElem?_cons_succ, List.getElem?_append_right (by simp [k16_len])]; simp [k16_len]
theorem en_18 : (en e)[18]? = some (.int .i64 e.flags) := by
  unfold en
  rw [List.getElem?_cons_succ, List.getElem?_append_right (by simp [k16_len])]; simp [k16_len]
theorem en_19 : (en e)[19]? = some (.bool e.off) := by
  unfold en
  rw [List.getElem?_cons_succ, List.getElem?_append_right (by simp [k16_len])]; simp [k16_len]
theorem en_g0 (h : 0 < (en e).length) : (en e)[0] = tx e.nm := rfl
theorem en_g17 (h : 17 < (en e).length) : (en e)[17] = .int .i64 e.life := by
  have := en_17 (e := e); rw [List.getElem?_eq_getElem h] at this; exact Option.some.inj this
theorem en_g18 (h : 18 < (en e).length) : (en e)[18] = .int .i64 e.flags := by
  have := en_18 (e := e); rw [List.getElem?_eq_getElem h] at this; exact Option.some.inj this
theorem en_g19 (h : 19 < (en e).length) : (en e)[19] = .bool e.off := by
  have := en_19 (e := e); rw [List.getElem?_eq_getElem h] at this; exact Option.some.inj this
theorem en_take : (en e).take 20 = en e := List.take_of_length_le (by rw [en_len]; omega)
theorem en_ok : (en e).all okCell = true := by
  simp [en, okCell, B]
  refine ⟨⟨rfl, rfl⟩, fun x _ => ⟨rfl, rfl⟩, ⟨rfl, rfl⟩, ⟨rfl, rfl⟩, rfl, rfl⟩
theorem okAll_all : ∀ l : List Value, okAll l = l.all okCell
  | [] => rfl
  | v :: l => by rw [okAll, okAll_all l]; rfl
theorem en_okAll : okAll (en e) = true := by rw [okAll_all]; exact en_ok
theorem en_setL : setL (en e) 0 (en e') = en e' := by
  simpa using setL_full (en e') [] (en e) (by rw [en_len, en_len])
theorem en_flat : flatB (enV e) = true := by
  simp [flatB, en, flat1, B]
end
set_option maxRecDepth 100000 in
theorem tzE : tzero Tryd.prog 34 = some (enV zE) := by kernel_rfl
theorem zE_const : (en zE).all constCell = true := by kernel_rfl
theorem allocE (id : Nat) : allocA Tryd.prog id 34 = some (.pointer (some ⟨id, 0, none⟩), .row (en zE) 34 20 true false) := by
  have h1 : constOk (.agg (en zE).toArray) = true := by simp only [constOk]; exact zE_const
  have h2 : (Value.agg (en zE).toArray).known = true := rfl
  have h3 : (Value.agg (en zE).toArray).cells.toList = en zE := by simp [Value.cells]
  have h4 : (Value.agg (en zE).toArray).cells.size = 20 := by simp only [Value.cells, List.size_toArray]; exact en_len
  simp only [allocA, tzE, h1, if_true, boxA, h2, h3, h4]
set_option maxRecDepth 100000 in
theorem buildE : buildP Tryd.prog 34 [] = some (enV zE) := by
  rw [buildP_nil]
  have h1 : (Value.agg (en zE).toArray).cells.size = 20 := by simp only [Value.cells, List.size_toArray]; exact en_len
  have h3 : (Value.agg (en zE).toArray).cells.toList = en zE := by simp [Value.cells]
  have h1' : constOk (.agg (en zE).toArray) = true := by simp only [constOk]; exact zE_const
  simp only [tzE, tsz34, Tryd.underlying34]
  simp
  exact ⟨h1', ⟨rfl, rfl, rfl, rfl, rfl⟩, rfl⟩
attribute [irreducible] en
attribute [go_sem] en_g0 en_g17 en_g18 en_g19 en_len en_take en_0 en_17 en_18 en_19 en_ok en_okAll en_setL

/-! ### The principals that are known -/
abbrev BL := List (List UInt8 × En)
abbrev brow (m : Nat) : AObj := .row [.map (some m)] 49 1 true false
def bsc (i : Nat) (L : BL) : Chunk := ex fun m : Nat => star [cell i (brow m), mpc tx enV m L]
theorem bsc_iff {O : Old} {h : AHeap} {R : List Chunk} {i : Nat} {L : BL} : Own O h (bsc i L :: R) ↔ ∃ m, Own O h (cell i (brow m) :: mpc tx enV m L :: R) := by
  simp only [bsc, Own.ex_iff, Own.star_iff, List.cons_append, List.nil_append]
structure BI (L : BL) : Prop where
  nd : (L.map (·.1)).Nodup
  kl : ∀ p ∈ L, p.1.length ≤ 1000000
  kn : ∀ p ∈ L, p.2.nm = p.1
  mx : L.length ≤ 16
def get (L : BL) (n : List UInt8) : Option En := (L.find? fun x => x.1 == n).map (·.2)
theorem get_none {L : BL} {p : List UInt8} (h : get L p = none) : ∀ x ∈ L, x.1 ≠ p := by
  intro x hx e
  have := List.find?_eq_none.1 (Option.map_eq_none_iff.1 h) x hx
  simp [e] at this
theorem get_some {L : BL} {p : List UInt8} {n : En} (h : get L p = some n) : ∃ j : Nat, L[j]? = some (p, n) ∧ L.findIdx? (fun x => x.1 == p) = some j := by
  obtain ⟨x, hx, rfl⟩ := Option.map_eq_some_iff.1 h
  have h1 := List.find?_some hx
  have h1 : x.1 = p := by simpa using h1
  have hf : L.findIdx? (fun x => x.1 == p) = some (L.findIdx fun x => x.1 == p) := by
    rw [List.findIdx?_eq_some_iff_findIdx_eq]
    exact ⟨List.findIdx_lt_length_of_exists ⟨x, List.mem_of_find?_eq_some hx, by simpa using h1⟩, rfl⟩
  refine ⟨_, ?_, hf⟩
  have := List.find?_eq_getElem?_findIdx (xs := L) (p := fun x => x.1 == p)
  rw [this] at hx
  rw [hx, ← h1]
theorem new_calls {O : Old} {h : AHeap} {R : List Chunk} (k : Own O h R) : ACalls Tryd.prog 8 #[] h fun r h' => ∃ i, r = ptr i ∧ Own O h' (bsc i [] :: R) := by
  refine ACalls.of_awp (args := []) (n := 4) Tryd.func8 rfl rfl (by show 0 ≤ 4; omega) ?_
  have k1 := k.map_new (ke := tx) (ve := enV)
  have k2 := k1.push (brow h.next)
  (repeat' first
    | refine AWP.seq ?_
    | refine AWP.block ?_
    | (refine AWP.skip ?_; try dsimp only [thn, inBlk])
    | (refine AWP.exit ?_; try simp only [thn, inBlk, if_true, reduceIte, Nat.reduceEqDiff])
    | (refine AWP.ret ?_; try dsimp only [thn, inBlk])
    | (refine AWP.condT ?_ ?_; (focus (simp [go_sem]; done)))
    | (refine AWP.condF ?_ ?_; (focus (simp [go_sem]; done)))
    | (apply AWP.rE; (focus (simp [go_sem]; exact ⟨rfl, rfl⟩)); try dsimp only [thn, inBlk])
    | fail)
  simp [bodyQ, thn, inBlk, resA, resV, go_sem]
  exact bsc_iff.2 ⟨_, k2⟩
section
variable {O : Old} {h : AHeap} {R : List Chunk} {i m : Nat} {L : BL}
theorem lk_ok {n : List UInt8} (hI : BI L) (k : Own O h (mpc tx enV m L :: R)) (hn : n.length ≤ 1000000) :
    lookupR Tryd.prog h 47 (.map (some m)) (tx n) true = some (.tuple #[enV ((get L n).getD zE), .bool (get L n).isSome]) := by
  cases hg : get L n with
  | none => exact k.map_miss txEnc Tryd.underlying47 tzE (by simp only [constOk]; exact zE_const) hn hI.kl hI.nd (get_none hg) true
  | some e =>
    obtain ⟨j, hj, _⟩ := get_some hg
    exact k.map_hit txEnc Tryd.underlying47 tzE (by simp only [constOk]; exact zE_const) hn hI.kl hI.nd (List.mem_of_getElem? hj) true
def getR (L : BL) (n : List UInt8) : En × Bool := match get L n with
  | some e => if e.off then (zE, false) else (e, true)
  | none => (zE, false)
set_option maxHeartbeats 8000000 in
theorem get_calls {n : List UInt8} (hI : BI L) (k : Own O h (bsc i L :: R)) (hn : n.length ≤ 1000000) :
    ACalls Tryd.prog 13 #[ptr i, tx n] h fun r h' => r = .tuple #[enV (getR L n).1, .bool (getR L n).2] ∧ Own O h' (bsc i L :: R) := by
  refine ACalls.of_awp (args := [ptr i, tx n]) (n := 25) Tryd.func13 rfl rfl (by show 2 ≤ 25; omega) ?_
  obtain ⟨m, k0⟩ := bsc_iff.1 k
  have k1 := k0.push (.row (en zE) 34 20 true false)
  have c1 := k1.b1.obj
  have lk := lk_ok hI k1.b2 hn
  generalize hv : (get L n).getD zE = v at lk
  have k2 : Own O (((h.push (.row (en zE) 34 20 true false)).push (.row (en zE) 34 20 true false)).set (h.next + 1) (.row (en v) 34 20 true false)) (cell (h.next + 1) (.row (en v) 34 20 true false) :: cell h.next (.row (en zE) 34 20 true false) :: cell i (brow m) :: mpc tx enV m L :: R) := (k1.push (.row (en zE) 34 20 true false)).set _
  have c2 := k2.obj
  have c3 := k2.b1.obj
  cases hg : get L n with
  | none =>
    rw [hg] at lk
    have e : getR L n = (zE, false) := by simp [getR, hg]
    rw [e]
    (repeat' first
      | refine AWP.seq ?_
      | refine AWP.block ?_
      | (refine AWP.skip ?_; try dsimp only [thn, inBlk])
      | (refine AWP.exit ?_; try simp only [thn, inBlk, if_true, reduceIte, Nat.reduceEqDiff])
      | (refine AWP.ret ?_; try dsimp only [thn, inBlk])
      | (refine AWP.condT ?_ ?_; (focus (simp [go_sem, ↓allocE, ↓buildE, c1, lk, c3]; done)))
      | (refine AWP.condF ?_ ?_; (focus (simp [go_sem, ↓allocE, ↓buildE, c1, lk, c3]; done)))
      | (apply AWP.rE; (focus (simp [go_sem, ↓allocE, ↓buildE, c1, lk, c3]; exact ⟨rfl, rfl⟩)); try dsimp only [thn, inBlk])
      | fail)
    simp [bodyQ, thn, inBlk, resA, resV, go_sem]
    exact bsc_iff.2 ⟨m, (k2.b1.set (.row (en zE) 34 20 true false)).tail.tail⟩
  | some e0 =>
    rw [hg] at lk hv
    obtain rfl : e0 = v := hv
    cases ho : e0.off
    · have e : getR L n = (e0, true) := by simp [getR, hg, ho]
      rw [e]
      (repeat' first
        | refine AWP.seq ?_
        | refine AWP.block ?_
        | (refine AWP.skip ?_; try dsimp only [thn, inBlk])
        | (refine AWP.exit ?_; try simp only [thn, inBlk, if_true, reduceIte, Nat.reduceEqDiff])
        | (refine AWP.ret ?_; try dsimp only [thn, inBlk])
        | (refine AWP.condT ?_ ?_; (focus (simp [go_sem, ↓allocE, ↓buildE, c1, lk, c2, c3, ho]; done)))
        | (refine AWP.condF ?_ ?_; (focus (simp [go_sem, ↓allocE, ↓buildE, c1, lk, c2, c3, ho]; done)))
        | (apply AWP.rE; (focus (simp [go_sem, ↓allocE, ↓buildE, c1, lk, c2, c3, ho]; exact ⟨rfl, rfl⟩)); try dsimp only [thn, inBlk])
        | fail)
      simp [bodyQ, thn, inBlk, resA, resV, go_sem]
      exact bsc_iff.2 ⟨m, (k2.b1.set (.row (en e0) 34 20 true false)).tail.tail⟩
    · have e : getR L n = (zE, false) := by simp [getR, hg, ho]
      rw [e]
      (repeat' first
        | refine AWP.seq ?_
        | refine AWP.block ?_
        | (refine AWP.skip ?_; try dsimp only [thn, inBlk])
        | (refine AWP.exit ?_; try simp only [thn, inBlk, if_true, reduceIte, Nat.reduceEqDiff])
        | (refine AWP.ret ?_; try dsimp only [thn, inBlk])
        | (refine AWP.condT ?_ ?_; (focus (simp [go_sem, ↓allocE, ↓buildE, c1, lk, c2, c3, ho]; done)))
        | (refine AWP.condF ?_ ?_; (focus (simp [go_sem, ↓allocE, ↓buildE, c1, lk, c2, c3, ho]; done)))
        | (apply AWP.rE; (focus (simp [go_sem, ↓allocE, ↓buildE, c1, lk, c2, c3, ho]; exact ⟨rfl, rfl⟩)); try dsimp only [thn, inBlk])
        | fail)
      simp [bodyQ, thn, inBlk, resA, resV, go_sem]
      exact bsc_iff.2 ⟨m, (k2.b1.set (.row (en zE) 34 20 true false)).tail.tail⟩
def dropT (L : BL) (n : List UInt8) : BL := L.filter fun p => !(p.1 == n)
theorem drop_eq {n : List UInt8} {L : BL} (f : List UInt8 × En → Bool) (hf : ∀ p, f p = !(p.1 == n)) : L.filter f = dropT L n := List.filter_congr fun p _ => hf p
set_option maxHeartbeats 8000000 in
theorem drop_calls {n : List UInt8} (hI : BI L) (k : Own O h (bsc i L :: R)) (hn : n.length ≤ 1000000) :
    ACalls Tryd.prog 9 #[ptr i, tx n] h fun r h' => r = .bool (get L n).isSome ∧ Own O h' (bsc i (dropT L n) :: R) := by
  refine ACalls.of_awp (args := [ptr i, tx n]) (n := 22) Tryd.func9 rfl rfl (by show 2 ≤ 22; omega) ?_
  obtain ⟨m, k0⟩ := bsc_iff.1 k
  have c1 := k0.obj
  have lk := lk_ok hI k0.b1 hn
  generalize (get L n).getD zE = v at lk
  generalize (get L n).isSome = b at lk
  have k2 := k0.push (.row (en v) 34 20 true false)
  have c2 := k2.obj
  have c3 := k2.b1.obj
  obtain ⟨h9, e9, n9, k9⟩ := k2.b2.map_del txEnc Tryd.underlying47 (x := n) hn hI.kl hI.nd
  rw [drop_eq (n := n) _ (fun p => by by_cases e : p.1 = n <;> simp [e])] at k9
  (repeat' first
    | refine AWP.seq ?_
    | refine AWP.block ?_
    | (refine AWP.skip ?_; try dsimp only [thn, inBlk])
    | (refine AWP.exit ?_; try simp only [thn, inBlk, if_true, reduceIte, Nat.reduceEqDiff])
    | (refine AWP.ret ?_; try dsimp only [thn, inBlk])
    | (refine AWP.condT ?_ ?_; (focus (simp [go_sem, ↓allocE, c1, lk, c2, c3, e9]; done)))
    | (refine AWP.condF ?_ ?_; (focus (simp [go_sem, ↓allocE, c1, lk, c2, c3, e9]; done)))
    | (apply AWP.rE; (focus (simp [go_sem, ↓allocE, c1, lk, c2, c3, e9]; exact ⟨rfl, rfl⟩)); try dsimp only [thn, inBlk])
    | fail)
  simp [bodyQ, thn, inBlk, resA, resV, go_sem]
  exact bsc_iff.2 ⟨m, k9.d1.b1⟩
end
end L09
