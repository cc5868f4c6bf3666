import Derived.Test.YteodcjamnfoidaaDoorL19e
import Derived.Test.YteodcjamnfoidaaDoorAbLibE
import Derived.StringKeys
open Go Ab Go.Proofs
namespace L19
set_option autoImplicit false
set_option linter.unusedSimpArgs false
set_option linter.unusedVariables false

/-! ### A tree: nodes by their paths -/
structure Nd where
  dir : Bool
  own : List UInt8
  mode : Nat
  data : List UInt8
abbrev TL := List (List UInt8 × Nd)
/-- A node's variable, and its data's address. -/
abbrev Wd := Nat × Option Addr × Nat
abbrev nrow (x : List UInt8 × Nd) (w : Wd) : AObj := .row [tx x.1, .bool x.2.dir, tx x.2.own, .int .i64 x.2.mode, .slice w.2.1 x.2.data.length w.2.2] 43 5 true false
def nsub (x : List UInt8 × Nd) (w : Wd) : Chunk := star [cell w.1 (nrow x w), ob 5 (.slice w.2.1 x.2.data.length w.2.2) x.2.data]
def nsubs (T : TL) (ws : List Wd) : List Chunk := List.zipWith nsub T ws
def ptrs (T : TL) (ws : List Wd) : List (List UInt8 × Nat) := List.zipWith (fun (x : List UInt8 × Nd) (w : Wd) => (x.1, w.1)) T ws
abbrev mch (m : Nat) (T : TL) (ws : List Wd) : Chunk := mpc tx ptr m (ptrs T ws)
abbrev trow (m : Nat) : AObj := .row [.map (some m)] 62 1 true false
/-- All of a tree, open. -/
abbrev tro (i m : Nat) (T : TL) (ws : List Wd) : List Chunk := cell i (trow m) :: mch m T ws :: nsubs T ws
structure TI (T : TL) : Prop where
  nd : (T.map (·.1)).Nodup
  pl : ∀ x ∈ T, x.1.length ≤ 1000000
  ol : ∀ x ∈ T, x.2.own.length ≤ 1000000
  md : ∀ x ∈ T, x.2.mode ≤ 63
  dl : ∀ x ∈ T, x.2.data.length ≤ 1000
def tr (i : Nat) (T : TL) : Chunk := ex fun p : Nat × List Wd => pur (p.2.length = T.length) (star (tro i p.1 T p.2))
theorem tr_iff {O : Old} {h : AHeap} {R : List Chunk} {i : Nat} {T : TL} : Own O h (tr i T :: R) ↔ ∃ m ws, ws.length = T.length ∧ Own O h (tro i m T ws ++ R) := by
  simp only [tr, Own.ex_iff, Own.pur_iff, Own.star_iff]
  exact ⟨fun ⟨p, a, b⟩ => ⟨p.1, p.2, a, b⟩, fun ⟨m, ws, a, b⟩ => ⟨(m, ws), a, b⟩⟩

theorem txEnc : KeyEnc tx Tryd.prog 9 (fun l => l.length ≤ 1000000) where
  law := WideMaps.string_law Tryd.underlying9
  flat := fun l => rfl
  lit := fun l hl => by
    have hm' : maxLen = 9223372036854775807 := by decide
    have hs : ByteArray.size ⟨l.toArray⟩ = l.length := rfl
    exact ⟨_, WideMaps.keyOf_string_mk Tryd.underlying9 (s := ⟨l.toArray⟩) (by rw [hs, hm']; omega)⟩
  inj := fun a b h => by
    simp only [Value.string.injEq] at h
    have := congrArg (fun x : ByteArray => x.data.toList) h
    simpa using this

def get (T : TL) (p : List UInt8) : Option Nd := (T.find? fun x => x.1 == p).map (·.2)
theorem get_none {T : TL} {p : List UInt8} (h : get T p = none) : ∀ x ∈ T, x.1 ≠ p := by
  intro x hx e
  have := List.find?_eq_none.1 (Option.map_eq_none_iff.1 h) x hx
  simp [e] at this
theorem get_some {T : TL} {p : List UInt8} {n : Nd} (h : get T p = some n) : ∃ j : Nat, T[j]? = some (p, n) := by
  obtain ⟨x, hx, rfl⟩ := Option.map_eq_some_iff.1 h
  have h1 := List.find?_some hx
  have h2 := List.mem_of_find?_eq_some hx
  obtain ⟨j, hj⟩ := List.mem_iff_getElem?.1 h2
  refine ⟨j, ?_⟩
  have : x.1 = p := by simpa using h1
  rw [hj, ← this]
section
variable {O : Old} {h : AHeap} {R : List Chunk} {i m : Nat} {T : TL} {ws : List Wd}
theorem ptrs_mem (hw : ws.length = T.length) {q : List UInt8 × Nat} (hq : q ∈ ptrs T ws) : ∃ x ∈ T, q.1 = x.1 := by
  obtain ⟨j, hj⟩ := List.mem_iff_getElem?.1 hq
  simp only [ptrs, List.getElem?_zipWith] at hj
  split at hj
  · rename_i x w h1 h2
    exact ⟨x, List.mem_of_getElem? h1, by rw [← Option.some.inj hj]⟩
  · cases hj
theorem ptrs_keys (hw : ws.length = T.length) : (ptrs T ws).map (·.1) = T.map (·.1) := by
  apply List.ext_getElem?
  intro j
  simp only [ptrs, List.getElem?_map, List.getElem?_zipWith]
  cases h1 : T[j]? with
  | none => simp
  | some x =>
    obtain ⟨hj, _⟩ := List.getElem?_eq_some_iff.1 h1
    rw [List.getElem?_eq_getElem (show j < ws.length by omega)]; rfl
theorem ptrs_len (hw : ws.length = T.length) : (ptrs T ws).length = T.length := by simp [ptrs, hw]
theorem ptrs_get {j : Nat} {x : List UInt8 × Nd} {w : Wd} (hx : T[j]? = some x) (hwj : ws[j]? = some w) : (ptrs T ws)[j]? = some (x.1, w.1) := by simp [ptrs, List.getElem?_zipWith, hx, hwj]
theorem nsubs_get {j : Nat} {x : List UInt8 × Nd} {w : Wd} (hx : T[j]? = some x) (hwj : ws[j]? = some w) : (nsubs T ws)[j]? = some (nsub x w) := by simp [nsubs, List.getElem?_zipWith, hx, hwj]
theorem ptrs_good (hI : TI T) (hw : ws.length = T.length) : ∀ p ∈ ptrs T ws, p.1.length ≤ 1000000 := fun p hp => by
  obtain ⟨x, hx, e⟩ := ptrs_mem hw hp
  rw [e]; exact hI.pl x hx

theorem tmap_miss (hI : TI T) (hw : ws.length = T.length) (k : Own O h (mch m T ws :: R)) {p : List UInt8} (hp : p.length ≤ 1000000) (hg : get T p = none) (ok : Bool) :
    lookupR Tryd.prog h 60 (.map (some m)) (tx p) ok = some (if ok then .tuple #[.pointer none, .bool false] else .pointer none) :=
  k.map_miss txEnc Tryd.underlying60 tz59 rfl hp (ptrs_good hI hw) (by rw [ptrs_keys hw]; exact hI.nd) (fun q hq e => by
    obtain ⟨x, hx, e2⟩ := ptrs_mem hw hq
    exact get_none hg x hx (e2.symm.trans e)) ok
theorem tmap_hit (hI : TI T) (hw : ws.length = T.length) (k : Own O h (mch m T ws :: R)) {j : Nat} {x : List UInt8 × Nd} {w : Wd} (hx : T[j]? = some x) (hwj : ws[j]? = some w) (ok : Bool) :
    lookupR Tryd.prog h 60 (.map (some m)) (tx x.1) ok = some (if ok then .tuple #[ptr w.1, .bool true] else ptr w.1) :=
  k.map_hit txEnc Tryd.underlying60 tz59 rfl (hI.pl x (List.mem_of_getElem? hx)) (ptrs_good hI hw) (by rw [ptrs_keys hw]; exact hI.nd) (List.mem_of_getElem? (ptrs_get hx hwj)) ok

/-- A node, ahead; and all again. -/
theorem node_open (k : Own O h (tro i m T ws ++ R)) {j : Nat} {x : List UInt8 × Nd} {w : Wd} (hx : T[j]? = some x) (hwj : ws[j]? = some w) :
    Own O h (cell w.1 (nrow x w) :: ob 5 (.slice w.2.1 x.2.data.length w.2.2) x.2.data :: ((nsubs T ws).eraseIdx j ++ (cell i (trow m) :: mch m T ws :: R))) := by
  have k1 : Own O h (nsubs T ws ++ (cell i (trow m) :: mch m T ws :: R)) := k.perm (by
    show (cell i (trow m) :: mch m T ws :: (nsubs T ws ++ R)).Perm _
    refine (List.Perm.cons _ List.perm_middle.symm).trans ?_
    exact List.perm_middle.symm)
  have k2 := k1.mem (nsubs_get hx hwj)
  have k3 := Own.star_iff.1 k2
  exact k3
theorem node_close {h' : AHeap} {j : Nat} {x x' : List UInt8 × Nd} {w w' : Wd} (hx : T[j]? = some x) (hwj : ws[j]? = some w) (h1 : x'.1 = x.1) (h2 : w'.1 = w.1)
    (k : Own O h' (cell w'.1 (nrow x' w') :: ob 5 (.slice w'.2.1 x'.2.data.length w'.2.2) x'.2.data :: ((nsubs T ws).eraseIdx j ++ (cell i (trow m) :: mch m T ws :: R)))) :
    Own O h' (tro i m (T.set j x') (ws.set j w') ++ R) := by
  have k2 : Own O h' (nsub x' w' :: ((nsubs T ws).eraseIdx j ++ (cell i (trow m) :: mch m T ws :: R))) := Own.star_iff.2 k
  have k3 := Own.mem_back (nsubs_get hx hwj) k2
  obtain ⟨hj, hje⟩ := List.getElem?_eq_some_iff.1 hx
  obtain ⟨hj2, hje2⟩ := List.getElem?_eq_some_iff.1 hwj
  have e1 : (nsubs T ws).set j (nsub x' w') = nsubs (T.set j x') (ws.set j w') := by
    apply List.ext_getElem?
    intro q
    simp only [nsubs, List.getElem?_zipWith, List.getElem?_set, List.length_zipWith]
    by_cases hq : j = q
    · subst hq; simp [hj, hj2]; omega
    · simp [hq]
  have e2 : ptrs (T.set j x') (ws.set j w') = ptrs T ws := by
    apply List.ext_getElem?
    intro q
    simp only [ptrs, List.getElem?_zipWith, List.getElem?_set]
    by_cases hq : j = q
    · subst hq; simp [hj, hj2, h1, h2, hje, hje2]
    · simp [hq]
  rw [e1] at k3
  have k4 : Own O h' (cell i (trow m) :: mch m T ws :: (nsubs (T.set j x') (ws.set j w') ++ R)) := k3.perm (by
    refine List.perm_middle.trans ?_
    exact List.Perm.cons _ List.perm_middle)
  show Own O h' (cell i (trow m) :: mch m (T.set j x') (ws.set j w') :: _)
  unfold mch
  rw [e2]
  exact k4
end

/-! ### right, may -/
def rightB (z : Int) : Bool := decide (0 ≤ z) && decide (z ≤ 63)
theorem right_calls {h : AHeap} {z : Int} : ACalls Tryd.prog 30 #[.int .i64 z] h fun r h' => r = .bool (rightB z) ∧ h' = h := by
  refine ACalls.of_awp (args := [.int .i64 z]) (n := 9) Tryd.func30 rfl rfl (by show 1 ≤ 9; omega) ?_
  by_cases h1 : 0 ≤ z
  · (repeat' first
      | refine AWP.seq ?_
      | refine AWP.block ?_
      | (refine AWP.skip ?_; try dsimp only [thn, inBlk])
      | (refine AWP.exit ?_; try simp only [thn, inBlk, if_true, reduceIte, Nat.reduceEqDiff])
      | (refine AWP.ret ?_; try dsimp only [thn, inBlk])
      | (refine AWP.condT ?_ ?_; (focus (simp [go_sem, h1]; done)))
      | (refine AWP.condF ?_ ?_; (focus (simp [go_sem, h1]; done)))
      | (apply AWP.rE; (focus (simp [go_sem, h1]; exact ⟨rfl, rfl⟩)); try dsimp only [thn, inBlk])
      | fail)
    simp [bodyQ, thn, inBlk, resA, resV, go_sem, rightB, h1]
  · (repeat' first
      | refine AWP.seq ?_
      | refine AWP.block ?_
      | (refine AWP.skip ?_; try dsimp only [thn, inBlk])
      | (refine AWP.exit ?_; try simp only [thn, inBlk, if_true, reduceIte, Nat.reduceEqDiff])
      | (refine AWP.ret ?_; try dsimp only [thn, inBlk])
      | (refine AWP.condT ?_ ?_; (focus (simp [go_sem, h1]; done)))
      | (refine AWP.condF ?_ ?_; (focus (simp [go_sem, h1]; done)))
      | (apply AWP.rE; (focus (simp [go_sem, h1]; exact ⟨rfl, rfl⟩)); try dsimp only [thn, inBlk])
      | fail)
    simp [bodyQ, thn, inBlk, resA, resV, go_sem, rightB, h1]
def rootB : List UInt8 := [114, 111, 111, 116]
def may (who : List UInt8) (n : Nd) (bit : Nat) : Bool := who == rootB || ((if who = n.own then n.mode / 8 else n.mode) &&& bit) != 0
theorem may_calls {h : AHeap} {who : List UInt8} {x : List UInt8 × Nd} {w : Wd} {bit : Nat} (ho : h.obj w.1 = some (nrow x w)) (hm : x.2.mode ≤ 63) (hb : bit ≤ 7) :
    ACalls Tryd.prog 33 #[tx who, ptr w.1, .int .i64 bit] h fun r h' => r = .bool (may who x.2 bit) ∧ h' = h := by
  refine ACalls.of_awp (args := [tx who, ptr w.1, .int .i64 bit]) (n := 28) Tryd.func33 rfl rfl (by show 3 ≤ 28; omega) ?_
  obtain ⟨n, b1, b2⟩ := w
  obtain ⟨p, ⟨dir, own, mode, data⟩⟩ := x
  dsimp only at ho hm
  (repeat' first
    | refine AWP.seq ?_
    | refine AWP.block ?_
    | (refine AWP.skip ?_; try dsimp only [thn, inBlk])
    | (refine AWP.exit ?_; try simp only [thn, inBlk, if_true, reduceIte, Nat.reduceEqDiff])
    | (refine AWP.ret ?_; try dsimp only [thn, inBlk])
    | (refine AWP.condT ?_ ?_; (focus (simp [go_sem, ho]; done)))
    | (refine AWP.condF ?_ ?_; (focus (simp [go_sem, ho]; done)))
    | (apply AWP.rE; (focus (simp [go_sem, ho]; exact ⟨rfl, rfl⟩)); try dsimp only [thn, inBlk])
    | fail)
  have wn : ∀ a : Nat, a ≤ 63 → IntKind.i64.wrap (((a % 18446744073709551616 &&& bit % 18446744073709551616 : Nat)) : Int) = ((a &&& bit : Nat) : Int) := fun a ha => by
    have h1 : (a &&& bit) ≤ a := Nat.and_le_left
    rw [Nat.mod_eq_of_lt (by omega), Nat.mod_eq_of_lt (by omega), wI64 (by omega) (by omega)]
  have zn : ∀ X : Nat, ((X : Int) != 0) = (X != 0) := fun X => by
    rw [Bool.eq_iff_iff]; simp
  have hsh : (mode : Int).fdiv 8 = ((mode / 8 : Nat) : Int) := by rw [Int.fdiv_eq_ediv_of_nonneg _ (by omega)]; rfl
  have hr : ∀ b, may who ⟨dir, own, mode, data⟩ b = (who == rootB || ((if who = own then mode / 8 else mode) &&& b) != 0) := fun _ => rfl
  rw [hr]
  by_cases h1 : who = own
  · have h1' : (who == own) = true := by simpa using h1
    rw [if_pos h1]
    obtain ⟨M, hM⟩ : ∃ M, M = mode / 8 := ⟨_, rfl⟩
    rw [← hM] at hsh ⊢
    have wM := wn M (by omega)
    by_cases h2 : who = rootB
    · have h2' : (who == [114, 111, 111, 116]) = true := by simpa [rootB] using h2
      have e : (who == rootB) = true := h2'
      rw [e, Bool.true_or]
      (repeat' first
        | refine AWP.seq ?_
        | refine AWP.block ?_
        | (refine AWP.skip ?_; try dsimp only [thn, inBlk])
        | (refine AWP.exit ?_; try simp only [thn, inBlk, if_true, reduceIte, Nat.reduceEqDiff])
        | (refine AWP.ret ?_; try dsimp only [thn, inBlk])
        | (refine AWP.condT ?_ ?_; (focus (simp [go_sem, h1', h2', ho, hsh]; done)))
        | (refine AWP.condF ?_ ?_; (focus (simp [go_sem, h1', h2', ho, hsh]; done)))
        | (apply AWP.rE; (focus (simp [go_sem, h1', h2', ho, hsh]; exact ⟨rfl, rfl⟩)); try dsimp only [thn, inBlk])
        | fail)
      simp [bodyQ, thn, inBlk, resA, resV, go_sem]
    · have h2' : (who == [114, 111, 111, 116]) = false := by simpa [rootB] using h2
      have e : (who == rootB) = false := h2'
      rw [e, Bool.false_or]
      (repeat' first
        | refine AWP.seq ?_
        | refine AWP.block ?_
        | (refine AWP.skip ?_; try dsimp only [thn, inBlk])
        | (refine AWP.exit ?_; try simp only [thn, inBlk, if_true, reduceIte, Nat.reduceEqDiff])
        | (refine AWP.ret ?_; try dsimp only [thn, inBlk])
        | (refine AWP.condT ?_ ?_; (focus (simp [go_sem, h1', h2', ho, hsh, wM, zn]; done)))
        | (refine AWP.condF ?_ ?_; (focus (simp [go_sem, h1', h2', ho, hsh, wM, zn]; done)))
        | (apply AWP.rE; (focus (simp [go_sem, h1', h2', ho, hsh, wM, zn]; exact ⟨rfl, rfl⟩)); try dsimp only [thn, inBlk])
        | fail)
      simp [bodyQ, thn, inBlk, resA, resV, go_sem, zn]
  · have h1' : (who == own) = false := by simpa using h1
    rw [if_neg h1]
    have wM := wn mode hm
    by_cases h2 : who = rootB
    · have h2' : (who == [114, 111, 111, 116]) = true := by simpa [rootB] using h2
      have e : (who == rootB) = true := h2'
      rw [e, Bool.true_or]
      (repeat' first
        | refine AWP.seq ?_
        | refine AWP.block ?_
        | (refine AWP.skip ?_; try dsimp only [thn, inBlk])
        | (refine AWP.exit ?_; try simp only [thn, inBlk, if_true, reduceIte, Nat.reduceEqDiff])
        | (refine AWP.ret ?_; try dsimp only [thn, inBlk])
        | (refine AWP.condT ?_ ?_; (focus (simp [go_sem, h1', h2', ho]; done)))
        | (refine AWP.condF ?_ ?_; (focus (simp [go_sem, h1', h2', ho]; done)))
        | (apply AWP.rE; (focus (simp [go_sem, h1', h2', ho]; exact ⟨rfl, rfl⟩)); try dsimp only [thn, inBlk])
        | fail)
      simp [bodyQ, thn, inBlk, resA, resV, go_sem]
    · have h2' : (who == [114, 111, 111, 116]) = false := by simpa [rootB] using h2
      have e : (who == rootB) = false := h2'
      rw [e, Bool.false_or]
      (repeat' first
        | refine AWP.seq ?_
        | refine AWP.block ?_
        | (refine AWP.skip ?_; try dsimp only [thn, inBlk])
        | (refine AWP.exit ?_; try simp only [thn, inBlk, if_true, reduceIte, Nat.reduceEqDiff])
        | (refine AWP.ret ?_; try dsimp only [thn, inBlk])
        | (refine AWP.condT ?_ ?_; (focus (simp [go_sem, h1', h2', ho, wM, zn]; done)))
        | (refine AWP.condF ?_ ?_; (focus (simp [go_sem, h1', h2', ho, wM, zn]; done)))
        | (apply AWP.rE; (focus (simp [go_sem, h1', h2', ho, wM, zn]; exact ⟨rfl, rfl⟩)); try dsimp only [thn, inBlk])
        | fail)
      simp [bodyQ, thn, inBlk, resA, resV, go_sem, zn]
end L19
