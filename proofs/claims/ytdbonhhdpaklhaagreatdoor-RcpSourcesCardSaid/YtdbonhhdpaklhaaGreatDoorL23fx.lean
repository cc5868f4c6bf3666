import Derived.Test.YtdbonhhdpaklhaaGreatDoorL23ax
import Derived.Test.YtdbonhhdpaklhaaGreatDoorAbLibE
import Derived.StringKeys
section
open Go Ab Go.Proofs
namespace L23
set_option autoImplicit false
set_option linter.unusedSimpArgs false
set_option linter.unusedVariables false

/-! ### A tree: nodes by their paths -/
structure Nd where
  dir : Bool
  own : List UInt8
  mode : Nat
  data : List UInt8
abbrev TL := List (List UInt8 × Nd)
/-- A node's variable, and its data's address. -/
abbrev Wd := Nat × Option Addr × Nat
abbrev nrow (x : List UInt8 × Nd) (w : Wd) : AObj := .row [tx x.1, .bool x.2.dir, tx x.2.own, .int .i64 x.2.mode, .slice w.2.1 x.2.data.length w.2.2] 47 5 true false
def nsub (x : List UInt8 × Nd) (w : Wd) : Chunk := star [cell w.1 (nrow x w), ob 5 (.slice w.2.1 x.2.data.length w.2.2) x.2.data]
def nsubs (T : TL) (ws : List Wd) : List Chunk := List.zipWith nsub T ws
def ptrs (T : TL) (ws : List Wd) : List (List UInt8 × Nat) := List.zipWith (fun (x : List UInt8 × Nd) (w : Wd) => (x.1, w.1)) T ws
abbrev mch (m : Nat) (T : TL) (ws : List Wd) : Chunk := mpc tx ptr m (ptrs T ws)
abbrev trow (m : Nat) : AObj := .row [.map (some m)] 79 1 true false
/-- All of a tree, open. -/
abbrev tro (i m : Nat) (T : TL) (ws : List Wd) : List Chunk := cell i (trow m) :: mch m T ws :: nsubs T ws
structure TI (T : TL) : Prop where
  nd : (T.map (·.1)).Nodup
  pl : ∀ x ∈ T, x.1.length ≤ 1000000
  ol : ∀ x ∈ T, x.2.own.length ≤ 1000000
  md : ∀ x ∈ T, x.2.mode ≤ 63
  dl : ∀ x ∈ T, x.2.data.length ≤ 1000
def tr (i : Nat) (T : TL) : Chunk := ex fun p : Nat × List Wd => pur (p.2.length = T.length) (star (tro i p.1 T p.2))
theorem tr_iff {O : Old} {h : AHeap} {R : List Chunk} {i : Nat} {T : TL} : Own O h (tr i T :: R) ↔ ∃ m ws, ws.length = T.length ∧ Own O h (tro i m T ws ++ R) := by
  simp only [tr, Own.ex_iff, Own.pur_iff, Own.star_iff]
  exact ⟨fun ⟨p, a, b⟩ => ⟨p.1, p.2, a, b⟩, fun ⟨m, ws, a, b⟩ => ⟨(m, ws), a, b⟩⟩

theorem txEnc : KeyEnc tx Tryz.prog 9 (fun l => l.length ≤ 1000000) where
  law := WideMaps.string_law Tryz.underlying9
  flat := fun l => rfl
  lit := fun l hl => by
    have hm' : maxLen = 9223372036854775807 := by decide
    have hs : ByteArray.size ⟨l.toArray⟩ = l.length := rfl
    exact ⟨_, WideMaps.keyOf_string_mk Tryz.underlying9 (s := ⟨l.toArray⟩) (by rw [hs, hm']; omega)⟩
  inj := fun a b h => by
    simp only [Value.string.injEq] at h
    have := congrArg (fun x : ByteArray => x.data.toList) h
    simpa using this

def get (T : TL) (p : List UInt8) : Option Nd := (T.find? fun x => x.1 == p).map (·.2)
theorem get_none {T : TL} {p : List UInt8} (h : get T p = none) : ∀ x ∈ T, x.1 ≠ p := by
  intro x hx e
  have := List.find?_eq_none.1 (Option.map_eq_none_iff.1 h) x hx
  simp [e] at this
theorem get_some {T : TL} {p : List UInt8} {n : Nd} (h : get T p = some n) : ∃ j : Nat, T[j]? = some (p, n) := by
  obtain ⟨x, hx, rfl⟩ := Option.map_eq_some_iff.1 h
  have h1 := List.find?_some hx
  have h2 := List.mem_of_find?_eq_some hx
  obtain ⟨j, hj⟩ := List.mem_iff_getElem?.1 h2
  refine ⟨j, ?_⟩
  have : x.1 = p := by simpa using h1
  rw [hj, ← this]
section
variable {O : Old} {h : AHeap} {R : List Chunk} {i m : Nat} {T : TL} {ws : List Wd}
theorem ptrs_mem (hw : ws.length = T.length) {q : List UInt8 × Nat} (hq : q ∈ ptrs T ws) : ∃ x ∈ T, q.1 = x.1 := by
  obtain ⟨j, hj⟩ := List.mem_iff_getElem?.1 hq
  simp only [ptrs, List.getElem?_zipWith] at hj
  split at hj
  · rename_i x w h1 h2
    exact ⟨x, List.mem_of_getElem? h1, by rw [← Option.some.inj hj]⟩
  · cases hj
theorem ptrs_keys (hw : ws.length = T.length) : (ptrs T ws).map (·.1) = T.map (·.1) := by
  apply List.ext_getElem?
  intro j
  simp only [ptrs, List.getElem?_map, List.getElem?_zipWith]
  cases h1 : T[j]? with
  | none => simp
  | some x =>
    obtain ⟨hj, _⟩ := List.getElem?_eq_some_iff.1 h1
    rw [List.getElem?_eq_getElem (show j < ws.length by omega)]; rfl
theorem ptrs_len (hw : ws.length = T.length) : (ptrs T ws).length = T.length := by simp [ptrs, hw]
theorem ptrs_get {j : Nat} {x : List UInt8 × Nd} {w : Wd} (hx : T[j]? = some x) (hwj : ws[j]? = some w) : (ptrs T ws)[j]? = some (x.1, w.1) := by simp [ptrs, List.getElem?_zipWith, hx, hwj]
theorem nsubs_get {j : Nat} {x : List UInt8 × Nd} {w : Wd} (hx : T[j]? = some x) (hwj : ws[j]? = some w) : (nsubs T ws)[j]? = some (nsub x w) := by simp [nsubs, List.getElem?_zipWith, hx, hwj]
theorem ptrs_good (hI : TI T) (hw : ws.length = T.length) : ∀ p ∈ ptrs T ws, p.1.length ≤ 1000000 := fun p hp => by
  obtain ⟨x, hx, e⟩ := ptrs_mem hw hp
  rw [e]; exact hI.pl x hx

theorem tmap_miss (hI : TI T) (hw : ws.length = T.length) (k : Own O h (mch m T ws :: R)) {p : List UInt8} (hp : p.length ≤ 1000000) (hg : get T p = none) (ok : Bool) :
    lookupR Tryz.prog h 76 (.map (some m)) (tx p) ok = some (if ok then .tuple #[.pointer none, .bool false] else .pointer none) :=
  k.map_miss txEnc Tryz.underlying76 tz77 rfl hp (ptrs_good hI hw) (by rw [ptrs_keys hw]; exact hI.nd) (fun q hq e => by
    obtain ⟨x, hx, e2⟩ := ptrs_mem hw hq
    exact get_none hg x hx (e2.symm.trans e)) ok
theorem tmap_hit (hI : TI T) (hw : ws.length = T.length) (k : Own O h (mch m T ws :: R)) {j : Nat} {x : List UInt8 × Nd} {w : Wd} (hx : T[j]? = some x) (hwj : ws[j]? = some w) (ok : Bool) :
    lookupR Tryz.prog h 76 (.map (some m)) (tx x.1) ok = some (if ok then .tuple #[ptr w.1, .bool true] else ptr w.1) :=
  k.map_hit txEnc Tryz.underlying76 tz77 rfl (hI.pl x (List.mem_of_getElem? hx)) (ptrs_good hI hw) (by rw [ptrs_keys hw]; exact hI.nd) (List.mem_of_getElem? (ptrs_get hx hwj)) ok

/-- A node, ahead; and all again. -/
theorem node_open (k : Own O h (tro i m T ws ++ R)) {j : Nat} {x : List UInt8 × Nd} {w : Wd} (hx : T[j]? = some x) (hwj : ws[j]? = some w) :
    Own O h (cell w.1 (nrow x w) :: ob 5 (.slice w.2.1 x.2.data.length w.2.2) x.2.data :: ((nsubs T ws).eraseIdx j ++ (cell i (trow m) :: mch m T ws :: R))) := by
  have k1 : Own O h (nsubs T ws ++ (cell i (trow m) :: mch m T ws :: R)) := k.perm (by
    show (cell i (trow m) :: mch m T ws :: (nsubs T ws ++ R)).Perm _
    refine (List.Perm.cons _ List.perm_middle.symm).trans ?_
    exact List.perm_middle.symm)
  have k2 := k1.mem (nsubs_get hx hwj)
  have k3 := Own.star_iff.1 k2
  exact k3
theorem node_close {h' : AHeap} {j : Nat} {x x' : List UInt8 × Nd} {w w' : Wd} (hx : T[j]? = some x) (hwj : ws[j]? = some w) (h1 : x'.1 = x.1) (h2 : w'.1 = w.1)
    (k : Own O h' (cell w'.1 (nrow x' w') :: ob 5 (.slice w'.2.1 x'.2.data.length w'.2.2) x'.2.data :: ((nsubs T ws).eraseIdx j ++ (cell i (trow m) :: mch m T ws :: R)))) :
    Own O h' (tro i m (T.set j x') (ws.set j w') ++ R) := by
  have k2 : Own O h' (nsub x' w' :: ((nsubs T ws).eraseIdx j ++ (cell i (trow m) :: mch m T ws :: R))) := Own.star_iff.2 k
  have k3 := Own.mem_back (nsubs_get hx hwj) k2
  obtain ⟨hj, hje⟩ := List.getElem?_eq_some_iff.1 hx
  obtain ⟨hj2, hje2⟩ := List.getElem?_eq_some_iff.1 hwj
  have e1 : (nsubs T ws).set j (nsub x' w') = nsubs (T.set j x') (ws.set j w') := by
    apply List.ext_getElem?
    intro q
    simp only [nsubs, List.getElem?_zipWith, List.getElem?_set, List.length_zipWith]
    by_cases hq : j = q
    · subst hq; simp [hj, hj2]; omega
    · simp [hq]
  have e2 : ptrs (T.set j x') (ws.set j w') = ptrs T ws := by
    apply List.ext_getElem?
    intro q
    simp only [ptrs, List.getElem?_zipWith, List.getElem?_set]
    by_cases hq : j = q
    · subst hq; simp [hj, hj2, h1, h2, hje, hje2]
    · simp [hq]
  rw [e1] at k3
  have k4 : Own O h' (cell i (trow m) :: mch m T ws :: (nsubs (T.set j x') (ws.set j w') ++ R)) := k3.perm (by
    refine List.perm_middle.trans ?_
    exact List.Perm.cons _ List.perm_middle)
  show Own O h' (cell i (trow m) :: mch m (T.set j x') (ws.set j w') :: _)
  unfold mch
  rw [e2]
  exact k4
end

/-! ### right, may -/
def rightB (z : Int) : Bool := decide (0 ≤ z) && decide (z ≤ 63)
theorem right_calls {h : AHeap} {z : Int} : ACalls Tryz.prog 38 #[.int .i64 z] h fun r h' => r = .bool (rightB z) ∧ h' = h := by
  refine ACalls.of_awp (args := [.int .i64 z]) (n := 9) Tryz.func38 rfl rfl (by show 1 ≤ 9; omega) ?_
  by_cases h1 : 0 ≤ z
  · (repeat' first
      | refine AWP.seq ?_
      | refine AWP.block ?_
      | (refine AWP.skip ?_; try dsimp only [thn, inBlk])
      | (refine AWP.exit ?_; try simp only [thn, inBlk, if_true, reduceIte, Nat.reduceEqDiff])
      | (refine AWP.ret ?_; try dsimp only [thn, inBlk])
      | (refine AWP.condT ?_ ?_; (focus (simp [go_sem, h1]; done)))
      | (refine AWP.condF ?_ ?_; (focus (simp [go_sem, h1]; done)))
      | (apply AWP.rE; (focus (simp [go_sem, h1]; exact ⟨rfl, rfl⟩)); try dsimp only [thn, inBlk])
      | fail)
    simp [bodyQ, thn, inBlk, resA, resV, go_sem, rightB, h1]
  · (repeat' first
      | refine AWP.seq ?_
      | refine AWP.block ?_
      | (refine AWP.skip ?_; try dsimp only [thn, inBlk])
      | (refine AWP.exit ?_; try simp only [thn, inBlk, if_true, reduceIte, Nat.reduceEqDiff])
      | (refine AWP.ret ?_; try dsimp only [thn, inBlk])
      | (refine AWP.condT ?_ ?_; (focus (simp [go_sem, h1]; done)))
      | (refine AWP.condF ?_ ?_; (focus (simp [go_sem, h1]; done)))
      | (apply AWP.rE; (focus (simp [go_sem, h1]; exact ⟨rfl, rfl⟩)); try dsimp only [thn, inBlk])
      | fail)
    simp [bodyQ, thn, inBlk, resA, resV, go_sem, rightB, h1]
def rootB : List UInt8 := [114, 111, 111, 116]
def may (who : List UInt8) (n : Nd) (bit : Nat) : Bool := who == rootB || ((if who = n.own then n.mode / 8 else n.mode) &&& bit) != 0
theorem may_calls {h : AHeap} {who : List UInt8} {x : List UInt8 × Nd} {w : Wd} {bit : Nat} (ho : h.obj w.1 = some (nrow x w)) (hm : x.2.mode ≤ 63) (hb : bit ≤ 7) :
    ACalls Tryz.prog 43 #[tx who, ptr w.1, .int .i64 bit] h fun r h' => r = .bool (may who x.2 bit) ∧ h' = h := by
  refine ACalls.of_awp (args := [tx who, ptr w.1, .int .i64 bit]) (n := 28) Tryz.func43 rfl rfl (by show 3 ≤ 28; omega) ?_
  obtain ⟨n, b1, b2⟩ := w
  obtain ⟨p, ⟨dir, own, mode, data⟩⟩ := x
  dsimp only at ho hm
  (repeat' first
    | refine AWP.seq ?_
    | refine AWP.block ?_
    | (refine AWP.skip ?_; try dsimp only [thn, inBlk])
    | (refine AWP.exit ?_; try simp only [thn, inBlk, if_true, reduceIte, Nat.reduceEqDiff])
    | (refine AWP.ret ?_; try dsimp only [thn, inBlk])
    | (refine AWP.condT ?_ ?_; (focus (simp [go_sem, ho]; done)))
    | (refine AWP.condF ?_ ?_; (focus (simp [go_sem, ho]; done)))
    | (apply AWP.rE; (focus (simp [go_sem, ho]; exact ⟨rfl, rfl⟩)); try dsimp only [thn, inBlk])
    | fail)
  have wn : ∀ a : Nat, a ≤ 63 → IntKind.i64.wrap (((a % 18446744073709551616 &&& bit % 18446744073709551616 : Nat)) : Int) = ((a &&& bit : Nat) : Int) := fun a ha => by
    have h1 : (a &&& bit) ≤ a := Nat.and_le_left
    rw [Nat.mod_eq_of_lt (by omega), Nat.mod_eq_of_lt (by omega), wI64 (by omega) (by omega)]
  have zn : ∀ X : Nat, ((X : Int) != 0) = (X != 0) := fun X => by
    rw [Bool.eq_iff_iff]; simp
  have hsh : (mode : Int).fdiv 8 = ((mode / 8 : Nat) : Int) := by rw [Int.fdiv_eq_ediv_of_nonneg _ (by omega)]; rfl
  have hr : ∀ b, may who ⟨dir, own, mode, data⟩ b = (who == rootB || ((if who = own then mode / 8 else mode) &&& b) != 0) := fun _ => rfl
  rw [hr]
  by_cases h1 : who = own
  · have h1' : (who == own) = true := by simpa using h1
    rw [if_pos h1]
    obtain ⟨M, hM⟩ : ∃ M, M = mode / 8 := ⟨_, rfl⟩
    rw [← hM] at hsh ⊢
    have wM := wn M (by omega)
    by_cases h2 : who = rootB
    · have h2' : (who == [114, 111, 111, 116]) = true := by simpa [rootB] using h2
      have e : (who == rootB) = true := h2'
      rw [e, Bool.true_or]
      (repeat' first
        | refine AWP.seq ?_
        | refine AWP.block ?_
        | (refine AWP.skip ?_; try dsimp only [thn, inBlk])
        | (refine AWP.exit ?_; try simp only [thn, inBlk, if_true, reduceIte, Nat.reduceEqDiff])
        | (refine AWP.ret ?_; try dsimp only [thn, inBlk])
        | (refine AWP.condT ?_ ?_; (focus (simp [go_sem, h1', h2', ho, hsh]; done)))
        | (refine AWP.condF ?_ ?_; (focus (simp [go_sem, h1', h2', ho, hsh]; done)))
        | (apply AWP.rE; (focus (simp [go_sem, h1', h2', ho, hsh]; exact ⟨rfl, rfl⟩)); try dsimp only [thn, inBlk])
        | fail)
      simp [bodyQ, thn, inBlk, resA, resV, go_sem]
    · have h2' : (who == [114, 111, 111, 116]) = false := by simpa [rootB] using h2
      have e : (who == rootB) = false := h2'
      rw [e, Bool.false_or]
      (repeat' first
        | refine AWP.seq ?_
        | refine AWP.block ?_
        | (refine AWP.skip ?_; try dsimp only [thn, inBlk])
        | (refine AWP.exit ?_; try simp only [thn, inBlk, if_true, reduceIte, Nat.reduceEqDiff])
        | (refine AWP.ret ?_; try dsimp only [thn, inBlk])
        | (refine AWP.condT ?_ ?_; (focus (simp [go_sem, h1', h2', ho, hsh, wM, zn]; done)))
        | (refine AWP.condF ?_ ?_; (focus (simp [go_sem, h1', h2', ho, hsh, wM, zn]; done)))
        | (apply AWP.rE; (focus (simp [go_sem, h1', h2', ho, hsh, wM, zn]; exact ⟨rfl, rfl⟩)); try dsimp only [thn, inBlk])
        | fail)
      simp [bodyQ, thn, inBlk, resA, resV, go_sem, zn]
  · have h1' : (who == own) = false := by simpa using h1
    rw [if_neg h1]
    have wM := wn mode hm
    by_cases h2 : who = rootB
    · have h2' : (who == [114, 111, 111, 116]) = true := by simpa [rootB] using h2
      have e : (who == rootB) = true := h2'
      rw [e, Bool.true_or]
      (repeat' first
        | refine AWP.seq ?_
        | refine AWP.block ?_
        | (refine AWP.skip ?_; try dsimp only [thn, inBlk])
        | (refine AWP.exit ?_; try simp only [thn, inBlk, if_true, reduceIte, Nat.reduceEqDiff])
        | (refine AWP.ret ?_; try dsimp only [thn, inBlk])
        | (refine AWP.condT ?_ ?_; (focus (simp [go_sem, h1', h2', ho]; done)))
        | (refine AWP.condF ?_ ?_; (focus (simp [go_sem, h1', h2', ho]; done)))
        | (apply AWP.rE; (focus (simp [go_sem, h1', h2', ho]; exact ⟨rfl, rfl⟩)); try dsimp only [thn, inBlk])
        | fail)
      simp [bodyQ, thn, inBlk, resA, resV, go_sem]
    · have h2' : (who == [114, 111, 111, 116]) = false := by simpa [rootB] using h2
      have e : (who == rootB) = false := h2'
      rw [e, Bool.false_or]
      (repeat' first
        | refine AWP.seq ?_
        | refine AWP.block ?_
        | (refine AWP.skip ?_; try dsimp only [thn, inBlk])
        | (refine AWP.exit ?_; try simp only [thn, inBlk, if_true, reduceIte, Nat.reduceEqDiff])
        | (refine AWP.ret ?_; try dsimp only [thn, inBlk])
        | (refine AWP.condT ?_ ?_; (focus (simp [go_sem, h1', h2', ho, wM, zn]; done)))
        | (refine AWP.condF ?_ ?_; (focus (simp [go_sem, h1', h2', ho, wM, zn]; done)))
        | (apply AWP.rE; (focus (simp [go_sem, h1', h2', ho, wM, zn]; exact ⟨rfl, rfl⟩)); try dsimp only [thn, inBlk])
        | fail)
      simp [bodyQ, thn, inBlk, resA, resV, go_sem, zn]
end L23
end

section
open Go Ab Go.Proofs
namespace L23
set_option autoImplicit false
set_option linter.unusedSimpArgs false
set_option linter.unusedVariables false

/-! ### Coming to a path -/
def comeF (T : TL) (who p : List UInt8) : Nat → Nat → Int
  | 0, _ => 0
  | n + 1, i => if p[i]? = some 47 ∧ p ≠ [47] then
      match get T (p.take (max i 1)) with
      | none => 110
      | some nd => if nd.dir = false then 112 else if may who nd 1 = false then 114 else comeF T who p n (i + 1)
    else comeF T who p n (i + 1)
def comeE (T : TL) (who p : List UInt8) : Int := if pathB p = true then comeF T who p p.length 0 else 30
/-- What is pointed to. -/
def pv (T : TL) (ws : List Wd) (p : List UInt8) : Value := match T.findIdx? (fun x => x.1 == p) with
  | some j => match ws[j]? with
    | some w => ptr w.1
    | none => .pointer none
  | none => .pointer none
theorem findIdx_get {T : TL} {p : List UInt8} {n : Nd} (h : get T p = some n) : ∃ j : Nat, T[j]? = some (p, n) ∧ T.findIdx? (fun x => x.1 == p) = some j := by
  obtain ⟨x, hx, rfl⟩ := Option.map_eq_some_iff.1 h
  have h1 : (x.1 == p) = true := by simpa using List.find?_some hx
  cases hf : T.findIdx? (fun x => x.1 == p) with
  | none =>
    have := List.findIdx?_eq_none_iff.1 hf x (List.mem_of_find?_eq_some hx)
    rw [h1] at this; cases this
  | some j =>
    refine ⟨j, ?_, rfl⟩
    have e := List.find?_eq_bind_findIdx?_getElem? (p := fun x : List UInt8 × Nd => x.1 == p) (xs := T)
    rw [hx, hf] at e
    have e2 : T[j]? = some x := e.symm
    have : x.1 = p := by simpa using h1
    rw [e2, ← this]
theorem pv_none {T : TL} {ws : List Wd} {p : List UInt8} (h : get T p = none) : pv T ws p = .pointer none := by
  have : T.findIdx? (fun x => x.1 == p) = none := List.findIdx?_eq_none_iff.2 fun x hx => by simpa using get_none h x hx
  simp only [pv, this]
theorem pv_some {T : TL} {ws : List Wd} {p : List UInt8} {n : Nd} (hw : ws.length = T.length) (h : get T p = some n) : ∃ (j : Nat) (w : Wd), T[j]? = some (p, n) ∧ ws[j]? = some w ∧ pv T ws p = ptr w.1 := by
  obtain ⟨j, hj, hf⟩ := findIdx_get h
  obtain ⟨hlt, _⟩ := List.getElem?_eq_some_iff.1 hj
  have hw2 : ws[j]? = some (ws[j]'(by omega)) := List.getElem?_eq_getElem (by omega)
  exact ⟨j, _, hj, hw2, by simp only [pv, hf, hw2]⟩

section
variable {O : Old} {h : AHeap} {R : List Chunk} {i m : Nat} {T : TL} {ws : List Wd}
theorem tlook (hI : TI T) (hw : ws.length = T.length) (k : Own O h (tro i m T ws ++ R)) {p : List UInt8} (hp : p.length ≤ 1000000) : lookupR Tryz.prog h 76 (.map (some m)) (tx p) false = some (pv T ws p) := by
  have k1 : Own O h (mch m T ws :: cell i (trow m) :: (nsubs T ws ++ R)) := (show Own O h (cell i (trow m) :: mch m T ws :: (nsubs T ws ++ R)) from k).b1
  cases hg : get T p with
  | none => rw [pv_none hg]; exact tmap_miss hI hw k1 hp hg false
  | some n =>
    obtain ⟨j, w, h1, h2, h3⟩ := pv_some hw hg
    rw [h3]; exact tmap_hit hI hw k1 h1 h2 false

set_option maxHeartbeats 8000000 in
theorem come_calls {who p : List UInt8} (hI : TI T) (hw : ws.length = T.length) (k : Own O h (tro i m T ws ++ R)) (hp : p.length ≤ 900000) :
    ACalls Tryz.prog 37 #[ptr i, tx who, tx p] h fun r h' => r = .tuple #[if comeE T who p = 0 then pv T ws p else .pointer none, .int .i64 (comeE T who p)] ∧ Own O h' (tro i m T ws ++ R) := by
  refine ACalls.of_awp (args := [ptr i, tx who, tx p]) (n := 60) Tryz.func37 rfl rfl (by show 3 ≤ 60; omega) ?_
  (repeat' first
    | refine AWP.seq ?_
    | refine AWP.block ?_
    | (refine AWP.skip ?_; try dsimp only [thn, inBlk])
    | (refine AWP.exit ?_; try simp only [thn, inBlk, if_true, reduceIte, Nat.reduceEqDiff])
    | (refine AWP.ret ?_; try dsimp only [thn, inBlk])
    | (refine AWP.condT ?_ ?_; (focus (simp [go_sem]; done)))
    | (refine AWP.condF ?_ ?_; (focus (simp [go_sem]; done)))
    | (apply AWP.rE; (focus (simp [go_sem]; exact ⟨rfl, rfl⟩)); try dsimp only [thn, inBlk])
    | (apply AWP.dE hmix [.n 0 [0], .n 1 [28], .n 2 [29], .n 3 [30], .n 4 [2], .n 5 [8], .n 6 [33], .n 7 [32, 34], .n 8 [31, 35], .n 9 [36], .n 10 [27], .n 11 [27], .n 12 [37], .n 13 [38]]; (focus kernel_rfl); (focus (simp [go_sem]; exact ⟨rfl, rfl⟩)); try dsimp only [thn, inBlk])
    | fail)
  refine AWP.callE (by simp [go_sem]; exact ⟨rfl, rfl, rfl, rfl, rfl⟩) (by kernel_rfl) ?_
  refine (path_calls k (l := p) hp).mono ?_
  rintro r h1 ⟨rfl, k1⟩
  cases hpb : pathB p
  · have e : comeE T who p = 30 := by simp [comeE, hpb]
    rw [e]
    refine awpL_restE (by simp [go_sem]; exact ⟨rfl, rfl⟩) ?_; try dsimp only [thn, inBlk]
    (repeat' first
      | refine AWP.seq ?_
      | refine AWP.block ?_
      | (refine AWP.skip ?_; try dsimp only [thn, inBlk])
      | (refine AWP.exit ?_; try simp only [thn, inBlk, if_true, reduceIte, Nat.reduceEqDiff])
      | (refine AWP.ret ?_; try dsimp only [thn, inBlk])
      | (refine AWP.condT ?_ ?_; (focus (simp [go_sem]; done)))
      | (refine AWP.condF ?_ ?_; (focus (simp [go_sem]; done)))
      | (apply AWP.rE; (focus (simp [go_sem]; exact ⟨rfl, rfl⟩)); try dsimp only [thn, inBlk])
      | (apply AWP.dE hmix [.n 0 [0], .n 1 [28], .n 2 [29], .n 3 [30], .n 4 [2], .n 5 [8], .n 6 [33], .n 7 [32, 34], .n 8 [31, 35], .n 9 [36], .n 10 [27], .n 11 [27], .n 12 [37], .n 13 [38]]; (focus kernel_rfl); (focus (simp [go_sem]; exact ⟨rfl, rfl⟩)); try dsimp only [thn, inBlk])
      | fail)
    simp [bodyQ, thn, inBlk, resA, resV, go_sem]
    exact k1
  have e : comeE T who p = comeF T who p p.length 0 := by simp [comeE, hpb]
  rw [e]
  refine awpL_restE (by simp [go_sem]; exact ⟨rfl, rfl⟩) ?_; try dsimp only [thn, inBlk]
  (repeat' first
    | refine AWP.seq ?_
    | refine AWP.block ?_
    | (refine AWP.skip ?_; try dsimp only [thn, inBlk])
    | (refine AWP.exit ?_; try simp only [thn, inBlk, if_true, reduceIte, Nat.reduceEqDiff])
    | (refine AWP.ret ?_; try dsimp only [thn, inBlk])
    | (refine AWP.condT ?_ ?_; (focus (simp [go_sem]; done)))
    | (refine AWP.condF ?_ ?_; (focus (simp [go_sem]; done)))
    | (apply AWP.rE; (focus (simp [go_sem]; exact ⟨rfl, rfl⟩)); try dsimp only [thn, inBlk])
    | (apply AWP.dE hmix [.n 0 [0], .n 1 [28], .n 2 [29], .n 3 [30], .n 4 [2], .n 5 [8], .n 6 [33], .n 7 [32, 34], .n 8 [31, 35], .n 9 [36], .n 10 [27], .n 11 [27], .n 12 [37], .n 13 [38]]; (focus kernel_rfl); (focus (simp [go_sem]; exact ⟨rfl, rfl⟩)); try dsimp only [thn, inBlk])
    | fail)
  refine AWP.loopR [0, 1, 2, 15, 16] (fun s0 s h' => ∃ j : Nat, j ≤ p.length ∧ s0 = p.length - j ∧ s = ⟨60, [(0, ptr i), (1, tx who), (2, tx p), (15, .int .i64 p.length), (16, .int .i64 j)]⟩ ∧ comeF T who p p.length 0 = comeF T who p (p.length - j) j ∧ Own O h' (tro i m T ws ++ R)) ?_ ?_
  · exact ⟨_, 0, by omega, rfl, rfl, rfl, k1⟩
  rintro s0 s h2 ⟨j, hj, rfl, rfl, hE, k2⟩
  have c2 : h2.obj i = some (trow m) := k2.obj
  by_cases hjm : j < p.length
  rotate_left
  · have hjm' : ¬ (j : Int) < p.length := by omega
    have e0 : comeF T who p p.length 0 = 0 := by rw [hE, show p.length - j = 0 by omega]; rfl
    have hlk := tlook hI hw k2 (p := p) (by omega)
    rw [e0]
    (repeat' first
      | refine AWP.seq ?_
      | refine AWP.block ?_
      | (refine AWP.skip ?_; try dsimp only [thn, inBlk])
      | (refine AWP.exit ?_; try simp only [thn, inBlk, if_true, reduceIte, Nat.reduceEqDiff])
      | (refine AWP.ret ?_; try dsimp only [thn, inBlk])
      | (refine AWP.condT ?_ ?_; (focus (simp [go_sem, hjm', c2, hlk]; done)))
      | (refine AWP.condF ?_ ?_; (focus (simp [go_sem, hjm', c2, hlk]; done)))
      | (apply AWP.rE; (focus (simp [go_sem, hjm', c2, hlk]; exact ⟨rfl, rfl⟩)); try dsimp only [thn, inBlk])
      | (apply AWP.dE hmix [.n 0 [0], .n 1 [28], .n 2 [29], .n 3 [30], .n 4 [2], .n 5 [8], .n 6 [33], .n 7 [32, 34], .n 8 [31, 35], .n 9 [36], .n 10 [27], .n 11 [27], .n 12 [37], .n 13 [38]]; (focus kernel_rfl); (focus (simp [go_sem, hjm', c2, hlk]; exact ⟨rfl, rfl⟩)); try dsimp only [thn, inBlk])
      | fail)
    simp [bodyQ, thn, inBlk, resA, resV, go_sem]
    exact k2
  have hjm' : (j : Int) < p.length := by omega
  have hg : indexP Tryz.prog 9 (tx p) (.int .i64 (j : Int)) = some (.int .u8 p[j].toNat) := str_index Tryz.underlying9 hjm
  have hgn : p[j]? = some p[j] := List.getElem?_eq_getElem hjm
  generalize p[j] = c at hg hgn
  have w1 : IntKind.i64.wrap ((j : Int) + 1) = ((j + 1 : Nat) : Int) := by rw [wI64 (by omega) (by omega)]; omega
  have hstep : p.length - j = (p.length - (j + 1)) + 1 := by omega
  rw [hstep, comeF, hgn] at hE
  by_cases hc : c = 47
  rotate_left
  · have hc' : ((c.toNat : Int) != 47) = true := by have := neB (d := 47) hc; simp at this ⊢; omega
    rw [if_neg (fun e => hc (Option.some.inj e.1))] at hE
    (repeat' first
      | refine AWP.seq ?_
      | refine AWP.block ?_
      | (refine AWP.skip ?_; try dsimp only [thn, inBlk])
      | (refine AWP.exit ?_; try simp only [thn, inBlk, if_true, reduceIte, Nat.reduceEqDiff])
      | (refine AWP.ret ?_; try dsimp only [thn, inBlk])
      | (refine AWP.condT ?_ ?_; (focus (simp [go_sem, hjm', hg, hc', w1]; done)))
      | (refine AWP.condF ?_ ?_; (focus (simp [go_sem, hjm', hg, hc', w1]; done)))
      | (apply AWP.rE; (focus (simp [go_sem, hjm', hg, hc', w1]; exact ⟨rfl, rfl⟩)); try dsimp only [thn, inBlk])
      | (apply AWP.dE hmix [.n 0 [0], .n 1 [28], .n 2 [29], .n 3 [30], .n 4 [2], .n 5 [8], .n 6 [33], .n 7 [32, 34], .n 8 [31, 35], .n 9 [36], .n 10 [27], .n 11 [27], .n 12 [37], .n 13 [38]]; (focus kernel_rfl); (focus (simp [go_sem, hjm', hg, hc', w1]; exact ⟨rfl, rfl⟩)); try dsimp only [thn, inBlk])
      | fail)
    exact ⟨p.length - (j + 1), by omega, j + 1, by omega, rfl, by simp [go_sem], hE, k2⟩
  have hc' : ((c.toNat : Int) != 47) = false := by rw [hc]; rfl
  by_cases hp1 : p = [47]
  · have hp1' : (p == [47]) = true := by simpa using hp1
    rw [if_neg (fun e => e.2 hp1)] at hE
    (repeat' first
      | refine AWP.seq ?_
      | refine AWP.block ?_
      | (refine AWP.skip ?_; try dsimp only [thn, inBlk])
      | (refine AWP.exit ?_; try simp only [thn, inBlk, if_true, reduceIte, Nat.reduceEqDiff])
      | (refine AWP.ret ?_; try dsimp only [thn, inBlk])
      | (refine AWP.condT ?_ ?_; (focus (simp [go_sem, hjm', hg, hc', hp1', w1]; done)))
      | (refine AWP.condF ?_ ?_; (focus (simp [go_sem, hjm', hg, hc', hp1', w1]; done)))
      | (apply AWP.rE; (focus (simp [go_sem, hjm', hg, hc', hp1', w1]; exact ⟨rfl, rfl⟩)); try dsimp only [thn, inBlk])
      | (apply AWP.dE hmix [.n 0 [0], .n 1 [28], .n 2 [29], .n 3 [30], .n 4 [2], .n 5 [8], .n 6 [33], .n 7 [32, 34], .n 8 [31, 35], .n 9 [36], .n 10 [27], .n 11 [27], .n 12 [37], .n 13 [38]]; (focus kernel_rfl); (focus (simp [go_sem, hjm', hg, hc', hp1', w1]; exact ⟨rfl, rfl⟩)); try dsimp only [thn, inBlk])
      | fail)
    exact ⟨p.length - (j + 1), by omega, j + 1, by omega, rfl, by simp [go_sem], hE, k2⟩
  have hp1' : (p == [47]) = false := by simpa using hp1
  rw [if_pos ⟨by rw [hc], hp1⟩] at hE
  obtain ⟨q, hq⟩ : ∃ q, q = max j 1 := ⟨_, rfl⟩
  have hmx : (if (j : Int) < 1 then (1 : Int) else (j : Int)) = (q : Int) := by split <;> omega
  have hs : sliceR Tryz.prog h2 9 (tx p) none (some (.int .i64 (q : Int))) none = some (tx (p.take q)) := by
    have := str_slice (P := Tryz.prog) (h := h2) Tryz.underlying9 (l := p) (lo := 0) (hi := q) (a := none) (u := some (.int .i64 (q : Int))) (by omega) (by omega) (.inl ⟨rfl, rfl⟩) (.inr ⟨.i64, rfl⟩)
    rw [List.drop_zero] at this; exact this
  rw [← hq] at hE
  have hpq : (p.take q).length ≤ 1000000 := by simp; omega
  have km : Own O h2 (mch m T ws :: cell i (trow m) :: (nsubs T ws ++ R)) := (show Own O h2 (cell i (trow m) :: mch m T ws :: (nsubs T ws ++ R)) from k2).b1
  cases hgt : get T (p.take q) with
  | none =>
    rw [hgt] at hE
    have e0 : comeF T who p p.length 0 = 110 := hE
    have hl := tmap_miss hI hw km hpq hgt true
    rw [if_pos rfl] at hl
    rw [e0]
    (repeat' first
      | refine AWP.seq ?_
      | refine AWP.block ?_
      | (refine AWP.skip ?_; try dsimp only [thn, inBlk])
      | (refine AWP.exit ?_; try simp only [thn, inBlk, if_true, reduceIte, Nat.reduceEqDiff])
      | (refine AWP.ret ?_; try dsimp only [thn, inBlk])
      | (refine AWP.condT ?_ ?_; (focus (simp [go_sem, hjm', hg, hc', hp1', c2, hmx, hs, hl]; done)))
      | (refine AWP.condF ?_ ?_; (focus (simp [go_sem, hjm', hg, hc', hp1', c2, hmx, hs, hl]; done)))
      | (apply AWP.rE; (focus (simp [go_sem, hjm', hg, hc', hp1', c2, hmx, hs, hl]; exact ⟨rfl, rfl⟩)); try dsimp only [thn, inBlk])
      | (apply AWP.dE hmix [.n 0 [0], .n 1 [28], .n 2 [29], .n 3 [30], .n 4 [2], .n 5 [8], .n 6 [33], .n 7 [32, 34], .n 8 [31, 35], .n 9 [36], .n 10 [27], .n 11 [27], .n 12 [37], .n 13 [38]]; (focus kernel_rfl); (focus (simp [go_sem, hjm', hg, hc', hp1', c2, hmx, hs, hl]; exact ⟨rfl, rfl⟩)); try dsimp only [thn, inBlk])
      | fail)
    simp [bodyQ, thn, inBlk, resA, resV, go_sem]
    exact k2
  | some nd =>
    rw [hgt] at hE
    dsimp only at hE
    obtain ⟨j2, w, t1, t2, _⟩ := pv_some hw hgt
    have hl := tmap_hit hI hw km t1 t2 true
    rw [if_pos rfl] at hl
    have ho : h2.obj w.1 = some (nrow (p.take q, nd) w) := (node_open k2 t1 t2).obj
    have hmd := hI.md _ (List.mem_of_getElem? t1)
    cases hdr : nd.dir
    · have e0 : comeF T who p p.length 0 = 112 := by rw [hE, if_pos hdr]
      rw [e0]
      (repeat' first
        | refine AWP.seq ?_
        | refine AWP.block ?_
        | (refine AWP.skip ?_; try dsimp only [thn, inBlk])
        | (refine AWP.exit ?_; try simp only [thn, inBlk, if_true, reduceIte, Nat.reduceEqDiff])
        | (refine AWP.ret ?_; try dsimp only [thn, inBlk])
        | (refine AWP.condT ?_ ?_; (focus (simp [go_sem, hjm', hg, hc', hp1', c2, hmx, hs, hl, ho, hdr]; done)))
        | (refine AWP.condF ?_ ?_; (focus (simp [go_sem, hjm', hg, hc', hp1', c2, hmx, hs, hl, ho, hdr]; done)))
        | (apply AWP.rE; (focus (simp [go_sem, hjm', hg, hc', hp1', c2, hmx, hs, hl, ho, hdr]; exact ⟨rfl, rfl⟩)); try dsimp only [thn, inBlk])
        | (apply AWP.dE hmix [.n 0 [0], .n 1 [28], .n 2 [29], .n 3 [30], .n 4 [2], .n 5 [8], .n 6 [33], .n 7 [32, 34], .n 8 [31, 35], .n 9 [36], .n 10 [27], .n 11 [27], .n 12 [37], .n 13 [38]]; (focus kernel_rfl); (focus (simp [go_sem, hjm', hg, hc', hp1', c2, hmx, hs, hl, ho, hdr]; exact ⟨rfl, rfl⟩)); try dsimp only [thn, inBlk])
        | fail)
      simp [bodyQ, thn, inBlk, resA, resV, go_sem]
      exact k2
    · rw [if_neg (by rw [hdr]; decide)] at hE
      (repeat' first
        | refine AWP.seq ?_
        | refine AWP.block ?_
        | (refine AWP.skip ?_; try dsimp only [thn, inBlk])
        | (refine AWP.exit ?_; try simp only [thn, inBlk, if_true, reduceIte, Nat.reduceEqDiff])
        | (refine AWP.ret ?_; try dsimp only [thn, inBlk])
        | (refine AWP.condT ?_ ?_; (focus (simp [go_sem, hjm', hg, hc', hp1', c2, hmx, hs, hl, ho, hdr]; done)))
        | (refine AWP.condF ?_ ?_; (focus (simp [go_sem, hjm', hg, hc', hp1', c2, hmx, hs, hl, ho, hdr]; done)))
        | (apply AWP.rE; (focus (simp [go_sem, hjm', hg, hc', hp1', c2, hmx, hs, hl, ho, hdr]; exact ⟨rfl, rfl⟩)); try dsimp only [thn, inBlk])
        | (apply AWP.dE hmix [.n 0 [0], .n 1 [28], .n 2 [29], .n 3 [30], .n 4 [2], .n 5 [8], .n 6 [33], .n 7 [32, 34], .n 8 [31, 35], .n 9 [36], .n 10 [27], .n 11 [27], .n 12 [37], .n 13 [38]]; (focus kernel_rfl); (focus (simp [go_sem, hjm', hg, hc', hp1', c2, hmx, hs, hl, ho, hdr]; exact ⟨rfl, rfl⟩)); try dsimp only [thn, inBlk])
        | fail)
      refine AWP.callE (by simp [go_sem]; exact ⟨rfl, rfl, rfl, rfl, rfl⟩) (by kernel_rfl) ?_
      refine (may_calls (who := who) (bit := 1) ho hmd (by omega)).mono ?_
      rintro r h3 ⟨rfl, rfl⟩
      cases hmy : may who nd 1
      · rw [if_pos hmy] at hE
        rw [hE]
        refine awpL_restE (by simp [go_sem]; exact ⟨rfl, rfl⟩) ?_; try dsimp only [thn, inBlk]
        (repeat' first
          | refine AWP.seq ?_
          | refine AWP.block ?_
          | (refine AWP.skip ?_; try dsimp only [thn, inBlk])
          | (refine AWP.exit ?_; try simp only [thn, inBlk, if_true, reduceIte, Nat.reduceEqDiff])
          | (refine AWP.ret ?_; try dsimp only [thn, inBlk])
          | (refine AWP.condT ?_ ?_; (focus (simp [go_sem]; done)))
          | (refine AWP.condF ?_ ?_; (focus (simp [go_sem]; done)))
          | (apply AWP.rE; (focus (simp [go_sem]; exact ⟨rfl, rfl⟩)); try dsimp only [thn, inBlk])
          | (apply AWP.dE hmix [.n 0 [0], .n 1 [28], .n 2 [29], .n 3 [30], .n 4 [2], .n 5 [8], .n 6 [33], .n 7 [32, 34], .n 8 [31, 35], .n 9 [36], .n 10 [27], .n 11 [27], .n 12 [37], .n 13 [38]]; (focus kernel_rfl); (focus (simp [go_sem]; exact ⟨rfl, rfl⟩)); try dsimp only [thn, inBlk])
          | fail)
        simp [bodyQ, thn, inBlk, resA, resV, go_sem]
        exact k2
      · rw [if_neg (by rw [hmy]; decide)] at hE
        refine awpL_restE (by simp [go_sem]; exact ⟨rfl, rfl⟩) ?_; try dsimp only [thn, inBlk]
        (repeat' first
          | refine AWP.seq ?_
          | refine AWP.block ?_
          | (refine AWP.skip ?_; try dsimp only [thn, inBlk])
          | (refine AWP.exit ?_; try simp only [thn, inBlk, if_true, reduceIte, Nat.reduceEqDiff])
          | (refine AWP.ret ?_; try dsimp only [thn, inBlk])
          | (refine AWP.condT ?_ ?_; (focus (simp [go_sem, w1]; done)))
          | (refine AWP.condF ?_ ?_; (focus (simp [go_sem, w1]; done)))
          | (apply AWP.rE; (focus (simp [go_sem, w1]; exact ⟨rfl, rfl⟩)); try dsimp only [thn, inBlk])
          | (apply AWP.dE hmix [.n 0 [0], .n 1 [28], .n 2 [29], .n 3 [30], .n 4 [2], .n 5 [8], .n 6 [33], .n 7 [32, 34], .n 8 [31, 35], .n 9 [36], .n 10 [27], .n 11 [27], .n 12 [37], .n 13 [38]]; (focus kernel_rfl); (focus (simp [go_sem, w1]; exact ⟨rfl, rfl⟩)); try dsimp only [thn, inBlk])
          | fail)
        exact ⟨p.length - (j + 1), by omega, j + 1, by omega, rfl, by simp [go_sem], hE, k2⟩
end
end L23
end

section
open Go Ab Go.Proofs
namespace L23
set_option autoImplicit false
set_option linter.unusedSimpArgs false
set_option linter.unusedVariables false

theorem clone_calls {O : Old} {h : AHeap} {R : List Chunk} {v : Value} {bs : List UInt8} (k : Own O h R) (hx : ∀ h, Own O h R → Bytes h v bs) (hm : bs.length ≤ 140737488355328) :
    ACalls Tryz.prog 35 #[v] h fun r h' => ∃ a cap, r = .slice a bs.length cap ∧ Own O h' (ob 5 (.slice a bs.length cap) bs :: R) := by
  refine ACalls.of_awp (args := [v]) (n := 8) Tryz.func35 rfl rfl (by show 1 ≤ 8; omega) ?_
  rcases hx h k with ⟨rfl, rfl⟩ | ⟨i, off, cap, c, e, sz, ti, ro, rfl, _⟩
  · (repeat' first
      | refine AWP.seq ?_
      | refine AWP.block ?_
      | (refine AWP.skip ?_; try dsimp only [thn, inBlk])
      | (refine AWP.exit ?_; try simp only [thn, inBlk, if_true, reduceIte, Nat.reduceEqDiff])
      | (refine AWP.ret ?_; try dsimp only [thn, inBlk])
      | (refine AWP.condT ?_ ?_; (focus (simp [go_sem]; done)))
      | (refine AWP.condF ?_ ?_; (focus (simp [go_sem]; done)))
      | (apply AWP.rE; (focus (simp [go_sem]; exact ⟨rfl, rfl⟩)); try dsimp only [thn, inBlk])
      | fail)
    simp [bodyQ, thn, inBlk, resA, resV, go_sem]
    exact ⟨_, _, ⟨rfl, rfl⟩, k.nil 5 1⟩
  · obtain ⟨a2, c2, h2, e1, k2⟩ := k.copy (P := Tryz.prog) (t := 32) (xt := 32) (i := h.next) Tryz.underlying32 tsz5 tby5 tz5 nI32 hx hm rfl
    (repeat' first
      | refine AWP.seq ?_
      | refine AWP.block ?_
      | (refine AWP.skip ?_; try dsimp only [thn, inBlk])
      | (refine AWP.exit ?_; try simp only [thn, inBlk, if_true, reduceIte, Nat.reduceEqDiff])
      | (refine AWP.ret ?_; try dsimp only [thn, inBlk])
      | (refine AWP.condT ?_ ?_; (focus (simp [go_sem, e1]; done)))
      | (refine AWP.condF ?_ ?_; (focus (simp [go_sem, e1]; done)))
      | (apply AWP.rE; (focus (simp [go_sem, e1]; exact ⟨rfl, rfl⟩)); try dsimp only [thn, inBlk])
      | fail)
    simp [bodyQ, thn, inBlk, resA, resV, go_sem]
    exact ⟨_, _, ⟨rfl, rfl⟩, k2⟩

def top : List UInt8 × Nd := ([47], ⟨true, rootB, 61, []⟩)
theorem new_calls {O : Old} {h : AHeap} {R : List Chunk} (k : Own O h R) : ACalls Tryz.prog 22 #[] h fun r h' => ∃ i, r = ptr i ∧ Own O h' (tr i [top] :: R) := by
  refine ACalls.of_awp (args := []) (n := 7) Tryz.func22 rfl rfl (by show 0 ≤ 7; omega) ?_
  have k1 := k.map_new (ke := tx) (ve := ptr)
  have k2 := k1.push (nrow top (h.next + 1, none, 0))
  obtain ⟨h3, e3, n3, k3⟩ := k2.b1.map_put txEnc Tryz.underlying76 (x := [47]) (v := h.next + 1) (by simp) (by simp) (by simp) (by simp)
  have k4 := k3.push (trow h.next)
  have e3 : mapUpdW Tryz.prog ((h.push (.other (.map #[] 0))).push (.row [.string ⟨#[47]⟩, .bool true, .string ⟨#[114, 111, 111, 116]⟩, .int .i64 61, .slice none 0 0] 47 5 true false)) 76 (.map (some h.next)) (.string ⟨#[47]⟩) (.pointer (some ⟨h.next + 1, 0, none⟩)) = some h3 := e3
  (repeat' first
    | refine AWP.seq ?_
    | refine AWP.block ?_
    | (refine AWP.skip ?_; try dsimp only [thn, inBlk])
    | (refine AWP.exit ?_; try simp only [thn, inBlk, if_true, reduceIte, Nat.reduceEqDiff])
    | (refine AWP.ret ?_; try dsimp only [thn, inBlk])
    | (refine AWP.condT ?_ ?_; (focus (simp [go_sem, e3]; done)))
    | (refine AWP.condF ?_ ?_; (focus (simp [go_sem, e3]; done)))
    | (apply AWP.rE; (focus (simp [go_sem, e3]; exact ⟨rfl, rfl⟩)); try dsimp only [thn, inBlk])
    | fail)
  simp [bodyQ, thn, inBlk, resA, resV, go_sem]
  refine tr_iff.2 ⟨h.next, [(h.next + 1, none, 0)], rfl, ?_⟩
  have k5 : Own O _ (nsub top (h.next + 1, none, 0) :: cell h3.next (trow h.next) :: mpc tx ptr h.next [([47], h.next + 1)] :: R) := Own.star_iff.2 ((k4.b2.nil 5 1).b1)
  exact k5.p2

theorem _root_.Ab.Own.mid {O : Old} {h : AHeap} {A R : List Chunk} {X : Chunk} (k : Own O h (A ++ (X :: R))) : Own O h (A ++ R) := (k.perm List.perm_middle).tail
section
variable {O : Old} {h : AHeap} {R : List Chunk} {i m : Nat} {T : TL} {ws : List Wd}
theorem tobj (hw : ws.length = T.length) (k : Own O h (tro i m T ws ++ R)) : ∃ es clock, h.obj m = some (.other (.map es clock)) ∧ es.size = T.length := by
  have k1 : Own O h (mch m T ws :: cell i (trow m) :: (nsubs T ws ++ R)) := (show Own O h (cell i (trow m) :: mch m T ws :: (nsubs T ws ++ R)) from k).b1
  obtain ⟨es, c, q1, q2⟩ := k1.map_obj
  exact ⟨es, c, q1, by rw [q2, ptrs_len hw]⟩

def putE (T : TL) (p : List UInt8) (n : Nd) : Int := match get T (par p) with
  | some nd => if may n.own nd 2 = false then 114 else if 64 ≤ T.length then 2 else 0
  | none => 114
def putT (T : TL) (p : List UInt8) (n : Nd) : TL := if putE T p n = 0 then T ++ [(p, n)] else T

set_option maxHeartbeats 8000000 in
theorem put_calls {p : List UInt8} {n nd : Nd} {a : Option Addr} {cap : Nat} (hI : TI T) (hw : ws.length = T.length) (k : Own O h (tro i m T ws ++ (ob 5 (.slice a n.data.length cap) n.data :: R))) (hp : p.length ≤ 900000) (hno : get T p = none) (hpar : get T (par p) = some nd) (hT : T.length ≤ 1000) :
    ACalls Tryz.prog 39 #[ptr i, .agg #[tx p, .bool n.dir, tx n.own, .int .i64 n.mode, .slice a n.data.length cap]] h fun r h' => r = .int .i64 (putE T p n) ∧ Own O h' (tr i (putT T p n) :: R) := by
  refine ACalls.of_awp (args := [ptr i, .agg #[tx p, .bool n.dir, tx n.own, .int .i64 n.mode, .slice a n.data.length cap]]) (n := 31) Tryz.func39 rfl rfl (by show 2 ≤ 31; omega) ?_
  have k1 : Own O (h.push (nrow (p, n) (h.next, a, cap))) (cell h.next (nrow (p, n) (h.next, a, cap)) :: (tro i m T ws ++ (ob 5 (.slice a n.data.length cap) n.data :: R))) := k.push _
  have c1 := k1.obj
  refine AWP.seq ?_
  (apply AWP.rE; (focus (simp [go_sem]; exact ⟨rfl, rfl⟩)); try dsimp only [thn, inBlk])
  generalize hH : h.push (nrow (p, n) (h.next, a, cap)) = h1 at k1 c1 ⊢
  generalize h.next = n3 at k1 c1 ⊢
  have ki := k1.tail
  have ci : h1.obj i = some (trow m) := ki.obj
  obtain ⟨j, w, t1, t2, t3⟩ := pv_some hw hpar
  have hlk := tlook hI hw ki (p := par p) (by
    unfold par; split
    · simp; omega
    · simp)
  rw [t3] at hlk
  have ho : h1.obj w.1 = some (nrow (par p, nd) w) := (node_open ki t1 t2).obj
  have hmd := hI.md _ (List.mem_of_getElem? t1)
  (repeat' first
    | refine AWP.seq ?_
    | refine AWP.block ?_
    | (refine AWP.skip ?_; try dsimp only [thn, inBlk])
    | (refine AWP.exit ?_; try simp only [thn, inBlk, if_true, reduceIte, Nat.reduceEqDiff])
    | (refine AWP.ret ?_; try dsimp only [thn, inBlk])
    | (refine AWP.condT ?_ ?_; (focus (simp [go_sem]; done)))
    | (refine AWP.condF ?_ ?_; (focus (simp [go_sem]; done)))
    | (apply AWP.rE; (focus (simp [go_sem]; exact ⟨rfl, rfl⟩)); try dsimp only [thn, inBlk])
    | (apply AWP.dE hmix [.n 0 [0], .n 1 [25], .n 2 [26], .n 3 [27], .n 4 [3], .n 5 [29], .w 6 [28, 30, 3] []]; (focus kernel_rfl); (focus (simp [go_sem]; exact ⟨rfl, rfl⟩)); try dsimp only [thn, inBlk])
    | fail)
  refine AWP.draw hmix [.n 0 [3], .n 1 [6], .n 2 [0], .n 3 [8], .n 4 [9], .n 5 [10], .n 6 [3], .n 7 [12], .w 8 [13] [1, 5], .n 9 [11, 14], .w 10 [7, 15] [], .n 11 [16], .n 12 [17]] (by kernel_rfl) ?_
  refine awpD_callR 8 (by rfl) (by rfl) (by simp [go_sem, c1, ci]; exact ⟨rfl, rfl, rfl⟩) (by rfl) (by rfl) (by simp [go_sem]) (by simp [go_sem, c1, ci]; exact ⟨rfl, rfl⟩) (by kernel_rfl) ?_
  refine (parent_calls (l := p) (by omega)).mono ?_
  rintro r h2 ⟨rfl, rfl⟩
  refine ⟨by simp [still, go_sem, c1, ci], ?_⟩
  refine awpD_callR 1 (by rfl) (by rfl) (by simp [go_sem, c1, ci, hlk]; exact ⟨rfl, rfl, rfl⟩) (by rfl) (by rfl) (by simp [go_sem]) (by simp [go_sem, c1, ci, hlk]; exact ⟨rfl, rfl⟩) (by kernel_rfl) ?_
  refine (may_calls (who := n.own) (bit := 2) ho hmd (by omega)).mono ?_
  rintro r h3 ⟨rfl, rfl⟩
  refine ⟨by simp [still, go_sem, c1, ci, hlk], ?_⟩
  have kt : Own O h3 (tro i m T ws ++ R) := ki.mid
  cases hmy : may n.own nd 2
  · have e1 : putE T p n = 114 := by simp only [putE, hpar]; rw [if_pos hmy]
    have e2 : putT T p n = T := by simp [putT, e1]
    rw [e1, e2]
    refine awpD_restR (by rfl) (by simp [go_sem]; exact ⟨rfl, rfl, rfl⟩) ?_; try dsimp only [thn, inBlk]
    (repeat' first
      | refine AWP.seq ?_
      | refine AWP.block ?_
      | (refine AWP.skip ?_; try dsimp only [thn, inBlk])
      | (refine AWP.exit ?_; try simp only [thn, inBlk, if_true, reduceIte, Nat.reduceEqDiff])
      | (refine AWP.ret ?_; try dsimp only [thn, inBlk])
      | (refine AWP.condT ?_ ?_; (focus (simp [go_sem]; done)))
      | (refine AWP.condF ?_ ?_; (focus (simp [go_sem]; done)))
      | (apply AWP.rE; (focus (simp [go_sem]; exact ⟨rfl, rfl⟩)); try dsimp only [thn, inBlk])
      | (apply AWP.dE hmix [.n 0 [0], .n 1 [25], .n 2 [26], .n 3 [27], .n 4 [3], .n 5 [29], .w 6 [28, 30, 3] []]; (focus kernel_rfl); (focus (simp [go_sem]; exact ⟨rfl, rfl⟩)); try dsimp only [thn, inBlk])
      | fail)
    simp [bodyQ, thn, inBlk, resA, resV, go_sem]
    exact tr_iff.2 ⟨m, ws, hw, kt⟩
  obtain ⟨es, clk, om, oz⟩ := tobj hw ki
  by_cases h64 : 64 ≤ T.length
  · have h64' : (64 : Int) ≤ T.length := by omega
    have e1 : putE T p n = 2 := by simp only [putE, hpar]; rw [if_neg (by rw [hmy]; decide), if_pos h64]
    have e2 : putT T p n = T := by simp [putT, e1]
    rw [e1, e2]
    refine awpD_restR (by rfl) (by simp [go_sem]; exact ⟨rfl, rfl, rfl⟩) ?_; try dsimp only [thn, inBlk]
    (repeat' first
      | refine AWP.seq ?_
      | refine AWP.block ?_
      | (refine AWP.skip ?_; try dsimp only [thn, inBlk])
      | (refine AWP.exit ?_; try simp only [thn, inBlk, if_true, reduceIte, Nat.reduceEqDiff])
      | (refine AWP.ret ?_; try dsimp only [thn, inBlk])
      | (refine AWP.condT ?_ ?_; (focus (simp [go_sem, ci, om, oz, h64']; done)))
      | (refine AWP.condF ?_ ?_; (focus (simp [go_sem, ci, om, oz, h64']; done)))
      | (apply AWP.rE; (focus (simp [go_sem, ci, om, oz, h64']; exact ⟨rfl, rfl⟩)); try dsimp only [thn, inBlk])
      | (apply AWP.dE hmix [.n 0 [0], .n 1 [25], .n 2 [26], .n 3 [27], .n 4 [3], .n 5 [29], .w 6 [28, 30, 3] []]; (focus kernel_rfl); (focus (simp [go_sem, ci, om, oz, h64']; exact ⟨rfl, rfl⟩)); try dsimp only [thn, inBlk])
      | fail)
    simp [bodyQ, thn, inBlk, resA, resV, go_sem]
    exact tr_iff.2 ⟨m, ws, hw, kt⟩
  have h64' : ¬ (64 : Int) ≤ T.length := by omega
  have e1 : putE T p n = 0 := by simp only [putE, hpar]; rw [if_neg (by rw [hmy]; decide), if_neg h64]
  have e2 : putT T p n = T ++ [(p, n)] := by simp [putT, e1]
  rw [e1, e2]
  have km : Own O h3 (mch m T ws :: cell n3 (nrow (p, n) (n3, a, cap)) :: cell i (trow m) :: (nsubs T ws ++ (ob 5 (.slice a n.data.length cap) n.data :: R))) := Own.b2 k1
  obtain ⟨h9, e9, n9, k9⟩ := km.map_put txEnc Tryz.underlying76 (x := p) (v := n3) (by omega) (ptrs_good hI hw) (by rw [ptrs_keys hw]; exact hI.nd) (fun q hq e => by
    obtain ⟨x, hx, ex⟩ := ptrs_mem hw hq
    exact get_none hno x hx (ex.symm.trans e))
  refine awpD_restR (by rfl) (by simp [go_sem]; exact ⟨rfl, rfl, rfl⟩) ?_; try dsimp only [thn, inBlk]
  (repeat' first
    | refine AWP.seq ?_
    | refine AWP.block ?_
    | (refine AWP.skip ?_; try dsimp only [thn, inBlk])
    | (refine AWP.exit ?_; try simp only [thn, inBlk, if_true, reduceIte, Nat.reduceEqDiff])
    | (refine AWP.ret ?_; try dsimp only [thn, inBlk])
    | (refine AWP.condT ?_ ?_; (focus (simp [go_sem, ci, om, oz, h64']; done)))
    | (refine AWP.condF ?_ ?_; (focus (simp [go_sem, ci, om, oz, h64']; done)))
    | (apply AWP.rE; (focus (simp [go_sem, ci, om, oz, h64']; exact ⟨rfl, rfl⟩)); try dsimp only [thn, inBlk])
    | (apply AWP.dE hmix [.n 0 [0], .n 1 [25], .n 2 [26], .n 3 [27], .n 4 [3], .n 5 [29], .w 6 [28, 30, 3] []]; (focus kernel_rfl); (focus (simp [go_sem, ci, om, oz, h64']; exact ⟨rfl, rfl⟩)); try dsimp only [thn, inBlk])
    | fail)
  refine AWP.draw hmix [.n 0 [0], .n 1 [25], .n 2 [26], .n 3 [27], .n 4 [3], .n 5 [29], .w 6 [28, 30, 3] []] (by kernel_rfl) ?_
  refine awpD_writeR 6 (by rfl) (by rfl) (by simp [go_sem, ci, c1, e9]; exact ⟨rfl, rfl, rfl⟩) (by rfl) (by rfl) (by simp [go_sem]) (by simp [go_sem, ci, c1, e9]; exact ⟨rfl, rfl⟩) (by simp [still, go_sem, ci, c1, e9]) ?_
  refine awpD_restR (by rfl) (by simp [go_sem]; exact ⟨rfl, rfl, rfl⟩) ?_; try dsimp only [thn, inBlk]
  (repeat' first
    | refine AWP.seq ?_
    | refine AWP.block ?_
    | (refine AWP.skip ?_; try dsimp only [thn, inBlk])
    | (refine AWP.exit ?_; try simp only [thn, inBlk, if_true, reduceIte, Nat.reduceEqDiff])
    | (refine AWP.ret ?_; try dsimp only [thn, inBlk])
    | (refine AWP.condT ?_ ?_; (focus (simp [go_sem]; done)))
    | (refine AWP.condF ?_ ?_; (focus (simp [go_sem]; done)))
    | (apply AWP.rE; (focus (simp [go_sem]; exact ⟨rfl, rfl⟩)); try dsimp only [thn, inBlk])
    | (apply AWP.dE hmix [.n 0 [0], .n 1 [25], .n 2 [26], .n 3 [27], .n 4 [3], .n 5 [29], .w 6 [28, 30, 3] []]; (focus kernel_rfl); (focus (simp [go_sem]; exact ⟨rfl, rfl⟩)); try dsimp only [thn, inBlk])
    | fail)
  simp [bodyQ, thn, inBlk, resA, resV, go_sem]
  refine tr_iff.2 ⟨m, ws ++ [(n3, a, cap)], by simp [hw], ?_⟩
  have q1 : ptrs (T ++ [(p, n)]) (ws ++ [(n3, a, cap)]) = ptrs T ws ++ [(p, n3)] := by
    simp only [ptrs]; rw [List.zipWith_append hw.symm]; rfl
  have q2 : nsubs (T ++ [(p, n)]) (ws ++ [(n3, a, cap)]) = nsubs T ws ++ [nsub (p, n) (n3, a, cap)] := by
    simp only [nsubs]; rw [List.zipWith_append hw.symm]; rfl
  have kA : Own O h9 (ob 5 (.slice a n.data.length cap) n.data :: mpc tx ptr m (ptrs T ws ++ [(p, n3)]) :: cell n3 (nrow (p, n) (n3, a, cap)) :: cell i (trow m) :: (nsubs T ws ++ R)) :=
    k9.perm (List.perm_middle (l₁ := mpc tx ptr m (ptrs T ws ++ [(p, n3)]) :: cell n3 (nrow (p, n) (n3, a, cap)) :: cell i (trow m) :: nsubs T ws))
  have kB : Own O h9 (nsub (p, n) (n3, a, cap) :: mpc tx ptr m (ptrs T ws ++ [(p, n3)]) :: cell i (trow m) :: (nsubs T ws ++ R)) := Own.star_iff.2 kA.b2
  show Own O h9 (cell i (trow m) :: mpc tx ptr m _ :: (_ ++ R))
  rw [q1, q2, List.append_assoc]
  exact kB.b2.b2.b1.perm (List.Perm.cons _ (List.Perm.cons _ List.perm_middle.symm))
end
end L23
end

section
open Go Ab Go.Proofs
namespace L23
set_option autoImplicit false
set_option linter.unusedSimpArgs false
set_option linter.unusedVariables false

/-! ### Where one comes, the parent is there -/
theorem comeF_zero {T : TL} {who p : List UInt8} (hp : p ≠ [47]) : ∀ (n i : Nat), comeF T who p n i = 0 → ∀ j, i ≤ j → j < i + n → p[j]? = some 47 → ∃ nd, get T (p.take (max j 1)) = some nd ∧ nd.dir = true ∧ may who nd 1 = true
  | 0, i, _, j, h1, h2, _ => by omega
  | n + 1, i, h, j, h1, h2, hj => by
    rw [comeF] at h
    by_cases hc : p[i]? = some 47 ∧ p ≠ [47]
    · rw [if_pos hc] at h
      split at h
      · cases h
      · rename_i nd hg
        split at h
        · cases h
        split at h
        · cases h
        · rename_i hd hm
          by_cases e : i = j
          · subst e; exact ⟨nd, hg, by simpa using hd, by simpa using hm⟩
          · exact comeF_zero hp n (i + 1) h j (by omega) (by omega) hj
    · rw [if_neg hc] at h
      by_cases e : i = j
      · subst e; exact absurd ⟨hj, hp⟩ hc
      · exact comeF_zero hp n (i + 1) h j (by omega) (by omega) hj
theorem lastN_spec (l : List UInt8) (c : UInt8) : ∀ n, (lastN l c n = 0 ∧ ∀ j, j < n → l[j]? ≠ some c) ∨ (0 < lastN l c n ∧ lastN l c n ≤ n ∧ l[lastN l c n - 1]? = some c)
  | 0 => .inl ⟨rfl, fun j h => by omega⟩
  | n + 1 => by
    rw [lastN]
    split
    · rename_i h; exact .inr ⟨by omega, Nat.le_refl _, h⟩
    · rename_i h
      rcases lastN_spec l c n with ⟨h1, h2⟩ | ⟨h1, h2, h3⟩
      · refine .inl ⟨h1, fun j hj => ?_⟩
        by_cases e : j = n
        · subst e; exact h
        · exact h2 j (by omega)
      · exact .inr ⟨h1, by omega, h3⟩
theorem pathB_head {p : List UInt8} (h : pathB p = true) : p[0]? = some 47 := by
  unfold pathB at h
  rcases p with _ | ⟨c, p⟩
  · simp [cut47] at h
  · by_cases hc : c = 47
    · rw [hc]; rfl
    · simp [cut47, hc] at h
theorem come_parent {T : TL} {who p : List UInt8} (h : comeE T who p = 0) (hp : p ≠ [47]) : ∃ nd, get T (par p) = some nd ∧ nd.dir = true ∧ may who nd 1 = true := by
  unfold comeE at h
  split at h
  rotate_left
  · cases h
  rename_i hpb
  have h0 := pathB_head hpb
  rcases lastN_spec p 47 p.length with ⟨h1, h2⟩ | ⟨h1, h2, h3⟩
  · exact absurd h0 (h2 0 (by rcases p with _ | ⟨c, p⟩; simp at h0; simp))
  · obtain ⟨nd, q1, q2, q3⟩ := comeF_zero hp p.length 0 h _ (Nat.zero_le _) (by omega) h3
    refine ⟨nd, ?_, q2, q3⟩
    rw [← q1]
    congr 1
    unfold par
    split
    · rw [show max (lastN p 47 p.length - 1) 1 = lastN p 47 p.length - 1 by omega]
    · rw [show max (lastN p 47 p.length - 1) 1 = 1 by omega]
      rcases p with _ | ⟨c, p⟩
      · simp at h0
      · simp at h0; subst h0; rfl

/-- What is true of every tree. -/
structure TK (T : TL) : Prop extends TI T where
  tp : ∃ nd, get T [47] = some nd
  mx : T.length ≤ 64
theorem TK.parent {T : TL} (h : TK T) {who p : List UInt8} (hc : comeE T who p = 0) : ∃ nd, get T (par p) = some nd := by
  by_cases hp : p = [47]
  · subst hp; exact h.tp
  · obtain ⟨nd, q, _⟩ := come_parent hc hp
    exact ⟨nd, q⟩

/-! ### Mkdir -/
def mkR (T : TL) (who p : List UInt8) (z : Int) : Int × TL :=
  if comeE T who p = 0 then
    if rightB z = false then (1, T) else match get T p with
      | some _ => (111, T)
      | none => (putE T p ⟨true, who, z.toNat, []⟩, putT T p ⟨true, who, z.toNat, []⟩)
  else (comeE T who p, T)
section
variable {O : Old} {h : AHeap} {R : List Chunk} {i m : Nat} {T : TL} {ws : List Wd}
set_option maxHeartbeats 8000000 in
theorem mkdir_calls {who p : List UInt8} {z : Int} (hI : TK T) (k : Own O h (tr i T :: R)) (hp : p.length ≤ 900000) :
    ACalls Tryz.prog 24 #[ptr i, tx who, tx p, .int .i64 z] h fun r h' => r = .int .i64 (mkR T who p z).1 ∧ Own O h' (tr i (mkR T who p z).2 :: R) := by
  obtain ⟨m, ws, hw, k0⟩ := tr_iff.1 k
  refine ACalls.of_awp (args := [ptr i, tx who, tx p, .int .i64 z]) (n := 35) Tryz.func24 rfl rfl (by show 4 ≤ 35; omega) ?_
  (repeat' first
    | refine AWP.seq ?_
    | refine AWP.block ?_
    | (refine AWP.skip ?_; try dsimp only [thn, inBlk])
    | (refine AWP.exit ?_; try simp only [thn, inBlk, if_true, reduceIte, Nat.reduceEqDiff])
    | (refine AWP.ret ?_; try dsimp only [thn, inBlk])
    | (refine AWP.condT ?_ ?_; (focus (simp [go_sem]; done)))
    | (refine AWP.condF ?_ ?_; (focus (simp [go_sem]; done)))
    | (apply AWP.rE; (focus (simp [go_sem]; exact ⟨rfl, rfl⟩)); try dsimp only [thn, inBlk])
    | fail)
  refine AWP.callE (by simp [go_sem]; exact ⟨rfl, rfl, rfl, rfl, rfl⟩) (by kernel_rfl) ?_
  refine (come_calls (who := who) hI.toTI hw k0 hp).mono ?_
  rintro r h1 ⟨rfl, k1⟩
  have kT := tr_iff.2 ⟨m, ws, hw, k1⟩
  by_cases hc : comeE T who p = 0
  rotate_left
  · have hc' : (comeE T who p != 0) = true := by simpa using hc
    have e : mkR T who p z = (comeE T who p, T) := by simp [mkR, hc]
    rw [if_neg hc, e]
    refine awpL_restE (by simp [go_sem]; exact ⟨rfl, rfl⟩) ?_; try dsimp only [thn, inBlk]
    (repeat' first
      | refine AWP.seq ?_
      | refine AWP.block ?_
      | (refine AWP.skip ?_; try dsimp only [thn, inBlk])
      | (refine AWP.exit ?_; try simp only [thn, inBlk, if_true, reduceIte, Nat.reduceEqDiff])
      | (refine AWP.ret ?_; try dsimp only [thn, inBlk])
      | (refine AWP.condT ?_ ?_; (focus (simp [go_sem, hc']; done)))
      | (refine AWP.condF ?_ ?_; (focus (simp [go_sem, hc']; done)))
      | (apply AWP.rE; (focus (simp [go_sem, hc']; exact ⟨rfl, rfl⟩)); try dsimp only [thn, inBlk])
      | fail)
    simp [bodyQ, thn, inBlk, resA, resV, go_sem]
    exact kT
  rw [if_pos hc, hc]
  refine awpL_restE (by simp [go_sem]; exact ⟨rfl, rfl⟩) ?_; try dsimp only [thn, inBlk]
  (repeat' first
    | refine AWP.seq ?_
    | refine AWP.block ?_
    | (refine AWP.skip ?_; try dsimp only [thn, inBlk])
    | (refine AWP.exit ?_; try simp only [thn, inBlk, if_true, reduceIte, Nat.reduceEqDiff])
    | (refine AWP.ret ?_; try dsimp only [thn, inBlk])
    | (refine AWP.condT ?_ ?_; (focus (simp [go_sem]; done)))
    | (refine AWP.condF ?_ ?_; (focus (simp [go_sem]; done)))
    | (apply AWP.rE; (focus (simp [go_sem]; exact ⟨rfl, rfl⟩)); try dsimp only [thn, inBlk])
    | fail)
  refine AWP.callE (by simp [go_sem]; exact ⟨rfl, rfl, rfl, rfl, rfl⟩) (by kernel_rfl) ?_
  refine (right_calls (z := z)).mono ?_
  rintro r h2 ⟨rfl, rfl⟩
  cases hr : rightB z
  · have e : mkR T who p z = (1, T) := by simp [mkR, hc, hr]
    rw [e]
    refine awpL_restE (by simp [go_sem]; exact ⟨rfl, rfl⟩) ?_; try dsimp only [thn, inBlk]
    (repeat' first
      | refine AWP.seq ?_
      | refine AWP.block ?_
      | (refine AWP.skip ?_; try dsimp only [thn, inBlk])
      | (refine AWP.exit ?_; try simp only [thn, inBlk, if_true, reduceIte, Nat.reduceEqDiff])
      | (refine AWP.ret ?_; try dsimp only [thn, inBlk])
      | (refine AWP.condT ?_ ?_; (focus (simp [go_sem]; done)))
      | (refine AWP.condF ?_ ?_; (focus (simp [go_sem]; done)))
      | (apply AWP.rE; (focus (simp [go_sem]; exact ⟨rfl, rfl⟩)); try dsimp only [thn, inBlk])
      | fail)
    simp [bodyQ, thn, inBlk, resA, resV, go_sem]
    exact kT
  cases hg : get T p with
  | some nd =>
    have e : mkR T who p z = (111, T) := by simp [mkR, hc, hr, hg]
    obtain ⟨j, w, t1, t2, t3⟩ := pv_some hw hg
    rw [e, t3]
    refine awpL_restE (by simp [go_sem]; exact ⟨rfl, rfl⟩) ?_; try dsimp only [thn, inBlk]
    (repeat' first
      | refine AWP.seq ?_
      | refine AWP.block ?_
      | (refine AWP.skip ?_; try dsimp only [thn, inBlk])
      | (refine AWP.exit ?_; try simp only [thn, inBlk, if_true, reduceIte, Nat.reduceEqDiff])
      | (refine AWP.ret ?_; try dsimp only [thn, inBlk])
      | (refine AWP.condT ?_ ?_; (focus (simp [go_sem]; done)))
      | (refine AWP.condF ?_ ?_; (focus (simp [go_sem]; done)))
      | (apply AWP.rE; (focus (simp [go_sem]; exact ⟨rfl, rfl⟩)); try dsimp only [thn, inBlk])
      | fail)
    simp [bodyQ, thn, inBlk, resA, resV, go_sem]
    exact kT
  | none =>
    have hz : z = (z.toNat : Int) := by simp [rightB] at hr; omega
    obtain ⟨M, hM⟩ : ∃ M, M = z.toNat := ⟨_, rfl⟩
    have e : mkR T who p z = (putE T p ⟨true, who, M, []⟩, putT T p ⟨true, who, M, []⟩) := by simp [mkR, hc, hr, hg, hM]
    obtain ⟨nd, hpar⟩ := hI.parent hc
    have hmx := hI.mx
    rw [e, pv_none hg]
    rw [← hM] at hz
    rw [hz]
    refine awpL_restE (by simp [go_sem]; exact ⟨rfl, rfl⟩) ?_; try dsimp only [thn, inBlk]
    (repeat' first
      | refine AWP.seq ?_
      | refine AWP.block ?_
      | (refine AWP.skip ?_; try dsimp only [thn, inBlk])
      | (refine AWP.exit ?_; try simp only [thn, inBlk, if_true, reduceIte, Nat.reduceEqDiff])
      | (refine AWP.ret ?_; try dsimp only [thn, inBlk])
      | (refine AWP.condT ?_ ?_; (focus (simp [go_sem]; done)))
      | (refine AWP.condF ?_ ?_; (focus (simp [go_sem]; done)))
      | (apply AWP.rE; (focus (simp [go_sem]; exact ⟨rfl, rfl⟩)); try dsimp only [thn, inBlk])
      | fail)
    refine AWP.callE (by simp [go_sem]; exact ⟨rfl, rfl, rfl, rfl, rfl⟩) (by kernel_rfl) ?_
    refine (put_calls (n := ⟨true, who, M, []⟩) (a := none) (cap := 0) hI.toTI hw ((k1.nil 5 1).perm List.perm_middle.symm) hp hg hpar (by omega)).mono ?_
    rintro r h3 ⟨rfl, k3⟩
    refine awpL_restE (by simp [go_sem]; exact ⟨rfl, rfl⟩) ?_; try dsimp only [thn, inBlk]
    (repeat' first
      | refine AWP.seq ?_
      | refine AWP.block ?_
      | (refine AWP.skip ?_; try dsimp only [thn, inBlk])
      | (refine AWP.exit ?_; try simp only [thn, inBlk, if_true, reduceIte, Nat.reduceEqDiff])
      | (refine AWP.ret ?_; try dsimp only [thn, inBlk])
      | (refine AWP.condT ?_ ?_; (focus (simp [go_sem]; done)))
      | (refine AWP.condF ?_ ?_; (focus (simp [go_sem]; done)))
      | (apply AWP.rE; (focus (simp [go_sem]; exact ⟨rfl, rfl⟩)); try dsimp only [thn, inBlk])
      | fail)
    simp [bodyQ, thn, inBlk, resA, resV, go_sem]
    exact k3
end
end L23
end

section
open Go Ab Go.Proofs
namespace L23
set_option autoImplicit false
set_option linter.unusedSimpArgs false
set_option linter.unusedVariables false

def setN (T : TL) (p : List UInt8) (n : Nd) : TL := match T.findIdx? (fun x => x.1 == p) with
  | some j => T.set j (p, n)
  | none => T
def wrR (T : TL) (who p d : List UInt8) (z : Int) : Int × TL :=
  if comeE T who p = 0 then
    if rightB z = false then (1, T) else if 1000 < d.length then (23, T) else match get T p with
      | none => (putE T p ⟨false, who, z.toNat, d⟩, putT T p ⟨false, who, z.toNat, d⟩)
      | some nd => if nd.dir = true then (113, T) else if may who nd 2 = false then (114, T) else (0, setN T p { nd with data := d })
  else (comeE T who p, T)
section
variable {O : Old} {h : AHeap} {R : List Chunk} {i m : Nat} {T : TL} {ws : List Wd}
theorem node_perm {j : Nat} {x : List UInt8 × Nd} {w : Wd} (hx : T[j]? = some x) (hwj : ws[j]? = some w) :
    (tro i m T ws ++ R).Perm (nsub x w :: ((nsubs T ws).eraseIdx j ++ (cell i (trow m) :: mch m T ws :: R))) := by
  have p1 : (tro i m T ws ++ R).Perm (nsubs T ws ++ (cell i (trow m) :: mch m T ws :: R)) := by
    show (cell i (trow m) :: mch m T ws :: (nsubs T ws ++ R)).Perm _
    refine (List.Perm.cons _ List.perm_middle.symm).trans ?_
    exact List.perm_middle.symm
  exact p1.trans ((perm_bring (nsubs_get hx hwj)).symm.append_right _)
theorem pv_at {p : List UInt8} {n : Nd} (hw : ws.length = T.length) (h : get T p = some n) : ∃ (j : Nat) (w : Wd), T[j]? = some (p, n) ∧ ws[j]? = some w ∧ pv T ws p = ptr w.1 ∧ ∀ n', setN T p n' = T.set j (p, n') := by
  obtain ⟨j, hj, hf⟩ := findIdx_get h
  obtain ⟨hlt, _⟩ := List.getElem?_eq_some_iff.1 hj
  have hw2 : ws[j]? = some (ws[j]'(by omega)) := List.getElem?_eq_getElem (by omega)
  exact ⟨j, _, hj, hw2, by simp only [pv, hf, hw2], fun n' => by simp only [setN, hf]⟩
/-- A node whose row is set. -/
theorem node_set {h' : AHeap} {j : Nat} {p : List UInt8} {n n' : Nd} {w w' : Wd} (hw : ws.length = T.length) (hx : T[j]? = some (p, n)) (hwj : ws[j]? = some w) (h2 : w'.1 = w.1)
    (k : Own O h' (cell w.1 (nrow (p, n') w') :: ob 5 (.slice w'.2.1 n'.data.length w'.2.2) n'.data :: ((nsubs T ws).eraseIdx j ++ (cell i (trow m) :: mch m T ws :: R)))) :
    Own O h' (tr i (T.set j (p, n')) :: R) :=
  tr_iff.2 ⟨m, ws.set j w', by simp [hw], node_close (x' := (p, n')) hx hwj rfl h2 (by rw [h2]; exact k)⟩

set_option maxHeartbeats 8000000 in
theorem write_calls {who p d : List UInt8} {v : Value} {z : Int} (hI : TK T) (k : Own O h (tr i T :: R)) (hx : ∀ h, Own O h R → Bytes h v d) (hp : p.length ≤ 900000) (hd : d.length ≤ 1000000) :
    ACalls Tryz.prog 26 #[ptr i, tx who, tx p, v, .int .i64 z] h fun r h' => r = .int .i64 (wrR T who p d z).1 ∧ Own O h' (tr i (wrR T who p d z).2 :: R) := by
  obtain ⟨va, vc, rfl⟩ := (hx h k.tail).val
  obtain ⟨m, ws, hw, k0⟩ := tr_iff.1 k
  refine ACalls.of_awp (args := [ptr i, tx who, tx p, .slice va d.length vc, .int .i64 z]) (n := 58) Tryz.func26 rfl rfl (by show 5 ≤ 58; omega) ?_
  (repeat' first
    | refine AWP.seq ?_
    | refine AWP.block ?_
    | (refine AWP.skip ?_; try dsimp only [thn, inBlk])
    | (refine AWP.exit ?_; try simp only [thn, inBlk, if_true, reduceIte, Nat.reduceEqDiff])
    | (refine AWP.ret ?_; try dsimp only [thn, inBlk])
    | (refine AWP.condT ?_ ?_; (focus (simp [go_sem]; done)))
    | (refine AWP.condF ?_ ?_; (focus (simp [go_sem]; done)))
    | (apply AWP.rE; (focus (simp [go_sem]; exact ⟨rfl, rfl⟩)); try dsimp only [thn, inBlk])
    | fail)
  refine AWP.callE (by simp [go_sem]; exact ⟨rfl, rfl, rfl, rfl, rfl⟩) (by kernel_rfl) ?_
  refine (come_calls (who := who) hI.toTI hw k0 hp).mono ?_
  rintro r h1 ⟨rfl, k1⟩
  have kT := tr_iff.2 ⟨m, ws, hw, k1⟩
  by_cases hc : comeE T who p = 0
  rotate_left
  · have hc' : (comeE T who p != 0) = true := by simpa using hc
    have e : wrR T who p d z = (comeE T who p, T) := by simp [wrR, hc]
    rw [if_neg hc, e]
    refine awpL_restE (by simp [go_sem]; exact ⟨rfl, rfl⟩) ?_; try dsimp only [thn, inBlk]
    (repeat' first
      | refine AWP.seq ?_
      | refine AWP.block ?_
      | (refine AWP.skip ?_; try dsimp only [thn, inBlk])
      | (refine AWP.exit ?_; try simp only [thn, inBlk, if_true, reduceIte, Nat.reduceEqDiff])
      | (refine AWP.ret ?_; try dsimp only [thn, inBlk])
      | (refine AWP.condT ?_ ?_; (focus (simp [go_sem, hc']; done)))
      | (refine AWP.condF ?_ ?_; (focus (simp [go_sem, hc']; done)))
      | (apply AWP.rE; (focus (simp [go_sem, hc']; exact ⟨rfl, rfl⟩)); try dsimp only [thn, inBlk])
      | fail)
    simp [bodyQ, thn, inBlk, resA, resV, go_sem]
    exact kT
  rw [if_pos hc, hc]
  refine awpL_restE (by simp [go_sem]; exact ⟨rfl, rfl⟩) ?_; try dsimp only [thn, inBlk]
  (repeat' first
    | refine AWP.seq ?_
    | refine AWP.block ?_
    | (refine AWP.skip ?_; try dsimp only [thn, inBlk])
    | (refine AWP.exit ?_; try simp only [thn, inBlk, if_true, reduceIte, Nat.reduceEqDiff])
    | (refine AWP.ret ?_; try dsimp only [thn, inBlk])
    | (refine AWP.condT ?_ ?_; (focus (simp [go_sem]; done)))
    | (refine AWP.condF ?_ ?_; (focus (simp [go_sem]; done)))
    | (apply AWP.rE; (focus (simp [go_sem]; exact ⟨rfl, rfl⟩)); try dsimp only [thn, inBlk])
    | fail)
  refine AWP.callE (by simp [go_sem]; exact ⟨rfl, rfl, rfl, rfl, rfl⟩) (by kernel_rfl) ?_
  refine (right_calls (z := z)).mono ?_
  rintro r h2 ⟨rfl, rfl⟩
  cases hr : rightB z
  · have e : wrR T who p d z = (1, T) := by simp [wrR, hc, hr]
    rw [e]
    refine awpL_restE (by simp [go_sem]; exact ⟨rfl, rfl⟩) ?_; try dsimp only [thn, inBlk]
    (repeat' first
      | refine AWP.seq ?_
      | refine AWP.block ?_
      | (refine AWP.skip ?_; try dsimp only [thn, inBlk])
      | (refine AWP.exit ?_; try simp only [thn, inBlk, if_true, reduceIte, Nat.reduceEqDiff])
      | (refine AWP.ret ?_; try dsimp only [thn, inBlk])
      | (refine AWP.condT ?_ ?_; (focus (simp [go_sem]; done)))
      | (refine AWP.condF ?_ ?_; (focus (simp [go_sem]; done)))
      | (apply AWP.rE; (focus (simp [go_sem]; exact ⟨rfl, rfl⟩)); try dsimp only [thn, inBlk])
      | fail)
    simp [bodyQ, thn, inBlk, resA, resV, go_sem]
    exact kT
  refine awpL_restE (by simp [go_sem]; exact ⟨rfl, rfl⟩) ?_; try dsimp only [thn, inBlk]
  by_cases hl : 1000 < d.length
  · have hl' : (1000 : Int) < d.length := by omega
    have e : wrR T who p d z = (23, T) := by simp [wrR, hc, hr, hl]
    rw [e]
    (repeat' first
      | refine AWP.seq ?_
      | refine AWP.block ?_
      | (refine AWP.skip ?_; try dsimp only [thn, inBlk])
      | (refine AWP.exit ?_; try simp only [thn, inBlk, if_true, reduceIte, Nat.reduceEqDiff])
      | (refine AWP.ret ?_; try dsimp only [thn, inBlk])
      | (refine AWP.condT ?_ ?_; (focus (simp [go_sem, hl']; done)))
      | (refine AWP.condF ?_ ?_; (focus (simp [go_sem, hl']; done)))
      | (apply AWP.rE; (focus (simp [go_sem, hl']; exact ⟨rfl, rfl⟩)); try dsimp only [thn, inBlk])
      | fail)
    simp [bodyQ, thn, inBlk, resA, resV, go_sem]
    exact kT
  have hl' : ¬ (1000 : Int) < d.length := by omega
  have hz : z = (z.toNat : Int) := by simp [rightB] at hr; omega
  obtain ⟨M, hM⟩ : ∃ M, M = z.toNat := ⟨_, rfl⟩
  cases hg : get T p with
  | none =>
    have e : wrR T who p d z = (putE T p ⟨false, who, M, d⟩, putT T p ⟨false, who, M, d⟩) := by
      simp only [wrR, hc, hr, hg, hM, if_true, if_neg hl]; simp
    obtain ⟨nd, hpar⟩ := hI.parent hc
    have hmx := hI.mx
    rw [e, pv_none hg]
    rw [← hM] at hz
    rw [hz]
    (repeat' first
      | refine AWP.seq ?_
      | refine AWP.block ?_
      | (refine AWP.skip ?_; try dsimp only [thn, inBlk])
      | (refine AWP.exit ?_; try simp only [thn, inBlk, if_true, reduceIte, Nat.reduceEqDiff])
      | (refine AWP.ret ?_; try dsimp only [thn, inBlk])
      | (refine AWP.condT ?_ ?_; (focus (simp [go_sem, hl']; done)))
      | (refine AWP.condF ?_ ?_; (focus (simp [go_sem, hl']; done)))
      | (apply AWP.rE; (focus (simp [go_sem, hl']; exact ⟨rfl, rfl⟩)); try dsimp only [thn, inBlk])
      | fail)
    refine AWP.callE (by simp [go_sem]; exact ⟨rfl, rfl, rfl, rfl, rfl⟩) (by kernel_rfl) ?_
    refine (clone_calls k1 (fun hh kk => hx hh kk.rest) (by omega)).mono ?_
    rintro r h3 ⟨a9, c9, rfl, k3⟩
    refine awpL_toCall (by simp [go_sem]; exact ⟨rfl, rfl, rfl, rfl, rfl⟩) (by kernel_rfl) ?_
    refine (put_calls (n := ⟨false, who, M, d⟩) (a := a9) (cap := c9) hI.toTI hw (k3.perm List.perm_middle.symm) hp hg hpar (by omega)).mono ?_
    rintro r h4 ⟨rfl, k4⟩
    refine awpL_restE (by simp [go_sem]; exact ⟨rfl, rfl⟩) ?_; try dsimp only [thn, inBlk]
    (repeat' first
      | refine AWP.seq ?_
      | refine AWP.block ?_
      | (refine AWP.skip ?_; try dsimp only [thn, inBlk])
      | (refine AWP.exit ?_; try simp only [thn, inBlk, if_true, reduceIte, Nat.reduceEqDiff])
      | (refine AWP.ret ?_; try dsimp only [thn, inBlk])
      | (refine AWP.condT ?_ ?_; (focus (simp [go_sem]; done)))
      | (refine AWP.condF ?_ ?_; (focus (simp [go_sem]; done)))
      | (apply AWP.rE; (focus (simp [go_sem]; exact ⟨rfl, rfl⟩)); try dsimp only [thn, inBlk])
      | fail)
    simp [bodyQ, thn, inBlk, resA, resV, go_sem]
    exact k4
  | some nd =>
    obtain ⟨j, w, t1, t2, t3, t4⟩ := pv_at hw hg
    have ho : h2.obj w.1 = some (nrow (p, nd) w) := (node_open k1 t1 t2).obj
    have hmd := hI.md _ (List.mem_of_getElem? t1)
    rw [t3]
    cases hdr : nd.dir
    rotate_left
    · have e : wrR T who p d z = (113, T) := by simp only [wrR, hc, hr, hg, hdr, if_true, if_neg hl]; simp
      rw [e]
      (repeat' first
        | refine AWP.seq ?_
        | refine AWP.block ?_
        | (refine AWP.skip ?_; try dsimp only [thn, inBlk])
        | (refine AWP.exit ?_; try simp only [thn, inBlk, if_true, reduceIte, Nat.reduceEqDiff])
        | (refine AWP.ret ?_; try dsimp only [thn, inBlk])
        | (refine AWP.condT ?_ ?_; (focus (simp [go_sem, hl', ho, hdr]; done)))
        | (refine AWP.condF ?_ ?_; (focus (simp [go_sem, hl', ho, hdr]; done)))
        | (apply AWP.rE; (focus (simp [go_sem, hl', ho, hdr]; exact ⟨rfl, rfl⟩)); try dsimp only [thn, inBlk])
        | fail)
      simp [bodyQ, thn, inBlk, resA, resV, go_sem]
      exact kT
    (repeat' first
      | refine AWP.seq ?_
      | refine AWP.block ?_
      | (refine AWP.skip ?_; try dsimp only [thn, inBlk])
      | (refine AWP.exit ?_; try simp only [thn, inBlk, if_true, reduceIte, Nat.reduceEqDiff])
      | (refine AWP.ret ?_; try dsimp only [thn, inBlk])
      | (refine AWP.condT ?_ ?_; (focus (simp [go_sem, hl', ho, hdr]; done)))
      | (refine AWP.condF ?_ ?_; (focus (simp [go_sem, hl', ho, hdr]; done)))
      | (apply AWP.rE; (focus (simp [go_sem, hl', ho, hdr]; exact ⟨rfl, rfl⟩)); try dsimp only [thn, inBlk])
      | fail)
    refine AWP.callE (by simp [go_sem]; exact ⟨rfl, rfl, rfl, rfl, rfl⟩) (by kernel_rfl) ?_
    refine (may_calls (who := who) (bit := 2) ho hmd (by omega)).mono ?_
    rintro r h3 ⟨rfl, rfl⟩
    cases hmy : may who nd 2
    · have e : wrR T who p d z = (114, T) := by simp only [wrR, hc, hr, hg, hdr, hmy, if_true, if_neg hl]; simp
      rw [e]
      refine awpL_restE (by simp [go_sem]; exact ⟨rfl, rfl⟩) ?_; try dsimp only [thn, inBlk]
      (repeat' first
        | refine AWP.seq ?_
        | refine AWP.block ?_
        | (refine AWP.skip ?_; try dsimp only [thn, inBlk])
        | (refine AWP.exit ?_; try simp only [thn, inBlk, if_true, reduceIte, Nat.reduceEqDiff])
        | (refine AWP.ret ?_; try dsimp only [thn, inBlk])
        | (refine AWP.condT ?_ ?_; (focus (simp [go_sem]; done)))
        | (refine AWP.condF ?_ ?_; (focus (simp [go_sem]; done)))
        | (apply AWP.rE; (focus (simp [go_sem]; exact ⟨rfl, rfl⟩)); try dsimp only [thn, inBlk])
        | fail)
      simp [bodyQ, thn, inBlk, resA, resV, go_sem]
      exact kT
    have e : wrR T who p d z = (0, T.set j (p, { nd with data := d })) := by simp only [wrR, hc, hr, hg, hdr, hmy, if_true, if_neg hl, t4]; simp
    rw [e]
    refine awpL_restE (by simp [go_sem]; exact ⟨rfl, rfl⟩) ?_; try dsimp only [thn, inBlk]
    (repeat' first
      | refine AWP.seq ?_
      | refine AWP.block ?_
      | (refine AWP.skip ?_; try dsimp only [thn, inBlk])
      | (refine AWP.exit ?_; try simp only [thn, inBlk, if_true, reduceIte, Nat.reduceEqDiff])
      | (refine AWP.ret ?_; try dsimp only [thn, inBlk])
      | (refine AWP.condT ?_ ?_; (focus (simp [go_sem]; done)))
      | (refine AWP.condF ?_ ?_; (focus (simp [go_sem]; done)))
      | (apply AWP.rE; (focus (simp [go_sem]; exact ⟨rfl, rfl⟩)); try dsimp only [thn, inBlk])
      | fail)
    refine AWP.callE (by simp [go_sem]; exact ⟨rfl, rfl, rfl, rfl, rfl⟩) (by kernel_rfl) ?_
    refine (clone_calls k1 (fun hh kk => hx hh kk.rest) (by omega)).mono ?_
    rintro r h4 ⟨a9, c9, rfl, k4⟩
    have k5 := Own.star_iff.1 ((k4.perm (List.Perm.cons _ (node_perm t1 t2))).b1)
    have k6 : Own O h4 (cell w.1 (nrow (p, nd) w) :: ob 5 (.slice a9 d.length c9) d :: _) := Own.d1 k5
    have c6 := k6.obj
    have k7 := k6.set (nrow (p, { nd with data := d }) (w.1, a9, c9))
    refine awpL_restE (by simp [go_sem, c6]; exact ⟨rfl, rfl⟩) ?_; try dsimp only [thn, inBlk]
    (repeat' first
      | refine AWP.seq ?_
      | refine AWP.block ?_
      | (refine AWP.skip ?_; try dsimp only [thn, inBlk])
      | (refine AWP.exit ?_; try simp only [thn, inBlk, if_true, reduceIte, Nat.reduceEqDiff])
      | (refine AWP.ret ?_; try dsimp only [thn, inBlk])
      | (refine AWP.condT ?_ ?_; (focus (simp [go_sem]; done)))
      | (refine AWP.condF ?_ ?_; (focus (simp [go_sem]; done)))
      | (apply AWP.rE; (focus (simp [go_sem]; exact ⟨rfl, rfl⟩)); try dsimp only [thn, inBlk])
      | fail)
    simp [bodyQ, thn, inBlk, resA, resV, go_sem]
    exact node_set (w' := (w.1, a9, c9)) hw t1 t2 rfl k7
end
end L23
end

