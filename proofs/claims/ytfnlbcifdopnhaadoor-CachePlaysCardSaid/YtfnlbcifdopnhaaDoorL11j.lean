import Derived.Test.YtfnlbcifdopnhaaDoorL11i
open Go Ab Go.Proofs
namespace L11
set_option autoImplicit false
set_option linter.unusedSimpArgs false
set_option linter.unusedVariables false

/-! ### Pieces in the midst -/
section
variable {O : Old} {h : AHeap} {R L L' A : List Chunk} {X : Chunk}
theorem perm_front : (A ++ (L ++ R)).Perm (L ++ (A ++ R)) := by
  rw [← List.append_assoc, ← List.append_assoc]
  exact List.perm_append_comm.append_right R
theorem Own.sublist (s : L'.Sublist L) : ∀ {R : List Chunk}, Own O h (L ++ R) → Own O h (L' ++ R) := by
  induction s with
  | slnil => exact fun k => k
  | cons a s ih => exact fun k => ih k.tail
  | cons_cons a s ih => exact fun {R} k => (ih (R := a :: R) (k.perm List.perm_middle.symm)).perm List.perm_middle
theorem Own.subIn (s : L'.Sublist L) (k : Own O h (A ++ (L ++ R))) : Own O h (A ++ (L' ++ R)) :=
  (Own.sublist s (k.perm perm_front)).perm perm_front
theorem Own.addIn (k : Own O h (X :: (A ++ (L ++ R)))) : Own O h (A ++ ((L ++ [X]) ++ R)) := by
  have e : (L ++ [X]) ++ R = L ++ (X :: R) := by simp
  rw [e]
  refine k.perm ?_
  rw [← List.append_assoc A L, ← List.append_assoc A L]
  exact List.perm_middle.symm
theorem Own.toR (k : Own O h (X :: (A ++ (L ++ R)))) : Own O h (A ++ (L ++ (X :: R))) := by
  refine k.perm ?_
  rw [← List.append_assoc A L, ← List.append_assoc A L]
  exact List.perm_middle.symm
theorem Own.setIn {j : Nat} {Y : Chunk} (hj : L[j]? = some Y) (k : Own O h (X :: (A ++ (L ++ R)))) : Own O h (A ++ (L.set j X ++ R)) := by
  have k1 : Own O h ([X] ++ A ++ (L ++ R)) := by simpa using k
  have k2 := ((k1.perm perm_front).mem hj).tail
  have k3 : Own O h (L.eraseIdx j ++ (X :: (A ++ R))) := by simpa using k2
  have k4 := Own.mem_back hj (k3.perm List.perm_middle)
  exact k4.perm perm_front
end

/-! ### The tickets that are kept -/
abbrev CL := List (List UInt8 × Cr)
abbrev brow (m : Nat) : AObj := .row [.map (some m)] 55 1 true false
def sub (x : KV) : Chunk := tkb x.2.1 x.2.2
def er (V : List KV) : CL := V.map fun x => (x.1, x.2.1)
def csc (i : Nat) (L : CL) : Chunk := ex fun x : Nat × List KV => pur (er x.2 = L) (star (cell i (brow x.1) :: mpc tx crV x.1 x.2 :: x.2.map sub))
theorem csc_iff {O : Old} {h : AHeap} {R : List Chunk} {i : Nat} {L : CL} : Own O h (csc i L :: R) ↔ ∃ m V, er V = L ∧ Own O h (cell i (brow m) :: mpc tx crV m V :: (V.map sub ++ R)) := by
  simp only [csc, Own.ex_iff, Own.pur_iff, Own.star_iff, List.cons_append]
  exact ⟨fun ⟨x, a, b⟩ => ⟨x.1, x.2, a, b⟩, fun ⟨m, V, a, b⟩ => ⟨(m, V), a, b⟩⟩
structure CI (L : CL) : Prop where
  nd : (L.map (·.1)).Nodup
  kl : ∀ p ∈ L, p.1.length ≤ 1000000
  kn : ∀ p ∈ L, p.2.g.sv = p.1
  tl : ∀ p ∈ L, p.2.tk.length ≤ 1000000
  mx : L.length ≤ 8
theorem CI.nil : CI [] := ⟨List.nodup_nil, by simp, by simp, by simp, by simp⟩
def get (L : CL) (n : List UInt8) : Option Cr := (L.find? fun x => x.1 == n).map (·.2)
theorem get_none {L : CL} {p : List UInt8} (h : get L p = none) : ∀ x ∈ L, x.1 ≠ p := by
  intro x hx e
  have := List.find?_eq_none.1 (Option.map_eq_none_iff.1 h) x hx
  simp [e] at this
theorem get_some {L : CL} {p : List UInt8} {n : Cr} (h : get L p = some n) : ∃ j : Nat, L[j]? = some (p, n) ∧ L.findIdx? (fun x => x.1 == p) = some j := by
  obtain ⟨x, hx, rfl⟩ := Option.map_eq_some_iff.1 h
  have h1 := List.find?_some hx
  have h1 : x.1 = p := by simpa using h1
  have hf : L.findIdx? (fun x => x.1 == p) = some (L.findIdx fun x => x.1 == p) := by
    rw [List.findIdx?_eq_some_iff_findIdx_eq]
    exact ⟨List.findIdx_lt_length_of_exists ⟨x, List.mem_of_find?_eq_some hx, by simpa using h1⟩, rfl⟩
  refine ⟨_, ?_, hf⟩
  have := List.find?_eq_getElem?_findIdx (xs := L) (p := fun x => x.1 == p)
  rw [this] at hx
  rw [hx, ← h1]
section
variable {V : List KV} {L : CL} (hV : er V = L)
include hV
theorem er_keys : V.map (·.1) = L.map (·.1) := by rw [← hV, er, List.map_map]; rfl
theorem er_nd (hI : CI L) : (V.map (·.1)).Nodup := by rw [er_keys hV]; exact hI.nd
theorem er_mem {x : KV} (hx : x ∈ V) : (x.1, x.2.1) ∈ L := by rw [← hV]; exact List.mem_map_of_mem hx
theorem er_kl (hI : CI L) : ∀ x ∈ V, x.1.length ≤ 1000000 := fun x hx => hI.kl _ (er_mem hV hx)
theorem er_len : V.length = L.length := by rw [← hV, er, List.length_map]
theorem er_none {n : List UInt8} (hg : get L n = none) : ∀ x ∈ V, x.1 ≠ n := fun x hx => get_none hg _ (er_mem hV hx)
theorem er_at {j : Nat} {n : List UInt8} {c : Cr} (hj : L[j]? = some (n, c)) : ∃ p, V[j]? = some (n, c, p) := by
  rw [← hV, er, List.getElem?_map, Option.map_eq_some_iff] at hj
  obtain ⟨x, hx, e⟩ := hj
  obtain ⟨a, b, d⟩ := x
  simp at e
  exact ⟨d, by rw [hx, e.1, e.2]⟩
end
section
variable {O : Old} {h : AHeap} {R : List Chunk} {i m : Nat} {L : CL} {V : List KV}
theorem new_calls (k : Own O h R) : ACalls Tryd.prog 8 #[] h fun r h' => ∃ i, r = ptr i ∧ Own O h' (csc i [] :: R) := by
  refine ACalls.of_awp (args := []) (n := 4) Tryd.func8 rfl rfl (by show 0 ≤ 4; omega) ?_
  have k1 := k.map_new (ke := tx) (ve := crV)
  have k2 := k1.push (brow h.next)
  (repeat' first
    | refine AWP.seq ?_
    | refine AWP.block ?_
    | (refine AWP.skip ?_; try dsimp only [thn, inBlk])
    | (refine AWP.exit ?_; try simp only [thn, inBlk, if_true, reduceIte, Nat.reduceEqDiff])
    | (refine AWP.ret ?_; try dsimp only [thn, inBlk])
    | (refine AWP.condT ?_ ?_; (focus (simp [go_sem]; done)))
    | (refine AWP.condF ?_ ?_; (focus (simp [go_sem]; done)))
    | (apply AWP.rE; (focus (simp [go_sem]; exact ⟨rfl, rfl⟩)); try dsimp only [thn, inBlk])
    | fail)
  simp [bodyQ, thn, inBlk, resA, resV, go_sem]
  exact csc_iff.2 ⟨_, [], rfl, k2⟩
def lkv (V : List KV) (n : List UInt8) : Cr × Pl := ((V.find? fun x => x.1 == n).map (·.2)).getD (zC, zP)
theorem lk_some {n : List UInt8} {c : Cr} (hV : er V = L) (hI : CI L) (hg : get L n = some c) (k : Own O h (mpc tx crV m V :: R)) (hn : n.length ≤ 1000000) :
    ∃ j p, L[j]? = some (n, c) ∧ L.findIdx? (fun x => x.1 == n) = some j ∧ V[j]? = some (n, c, p) ∧ lookupR Tryd.prog h 53 (.map (some m)) (tx n) true = some (.tuple #[crV (c, p), .bool true]) := by
  obtain ⟨j, hj, hf⟩ := get_some hg
  obtain ⟨p, hp⟩ := er_at hV hj
  exact ⟨j, p, hj, hf, hp, k.map_hit txEnc Tryd.underlying53 tzC (by simp only [constOk]; exact zC_const) hn (er_kl hV hI) (er_nd hV hI) (List.mem_of_getElem? hp) true⟩
theorem lk_none {n : List UInt8} (hV : er V = L) (hI : CI L) (hg : get L n = none) (k : Own O h (mpc tx crV m V :: R)) (hn : n.length ≤ 1000000) :
    lookupR Tryd.prog h 53 (.map (some m)) (tx n) true = some (.tuple #[crV (zC, zP), .bool false]) :=
  k.map_miss txEnc Tryd.underlying53 tzC (by simp only [constOk]; exact zC_const) hn (er_kl hV hI) (er_nd hV hI) (er_none hV hg) true
def findR (L : CL) (n : List UInt8) (now : Int) : Cr × Bool := match get L n with
  | some c => if c.g.en < now then (zC, false) else (c, true)
  | none => (zC, false)
theorem sub_bytes {A : List Chunk} {j : Nat} {n : List UInt8} {c : Cr} {p : Pl} (hj : V[j]? = some (n, c, p)) (k : Own O h (A ++ (V.map sub ++ R))) : Bytes h (tkV c p) c.tk :=
  ((k.perm perm_front).mem (A := tkb c p) (j := j) (by rw [List.getElem?_map, hj]; rfl)).ob_bytes
theorem get_mem {n : List UInt8} {e : Cr} (h : get L n = some e) : (n, e) ∈ L := by
  obtain ⟨j, hj, _⟩ := get_some h
  exact List.mem_of_getElem? hj
set_option maxHeartbeats 8000000 in
theorem find_calls {n : List UInt8} {now : Int} (hI : CI L) (k : Own O h (csc i L :: R)) (hn : n.length ≤ 1000000) :
    ACalls Tryd.prog 10 #[ptr i, tx n, .int .i64 now] h fun r h' => ∃ p, r = .tuple #[crV ((findR L n now).1, p), .bool (findR L n now).2] ∧ Own O h' (tkb (findR L n now).1 p :: csc i L :: R) := by
  refine ACalls.of_awp (args := [ptr i, tx n, .int .i64 now]) (n := 31) Tryd.func10 rfl rfl (by show 3 ≤ 31; omega) ?_
  obtain ⟨m, V, hV, k0⟩ := csc_iff.1 k
  have k1 := k0.push (.row (cr zC zP) 34 23 true false)
  have c1 := k1.b1.obj
  cases hg : get L n with
  | none =>
    have e : findR L n now = (zC, false) := by simp [findR, hg]
    rw [e]
    have lk := lk_none hV hI hg k1.b2 hn
    have k2 : Own O (((h.push (.row (cr zC zP) 34 23 true false)).push (.row (cr zC zP) 34 23 true false)).set (h.next + 1) (.row (cr zC zP) 34 23 true false)) (cell (h.next + 1) (.row (cr zC zP) 34 23 true false) :: cell h.next (.row (cr zC zP) 34 23 true false) :: cell i (brow m) :: mpc tx crV m V :: (V.map sub ++ R)) := (k1.push (.row (cr zC zP) 34 23 true false)).set _
    have c2 := k2.obj
    have c3 := k2.b1.obj
    (repeat' first
      | refine AWP.seq ?_
      | refine AWP.block ?_
      | (refine AWP.skip ?_; try dsimp only [thn, inBlk])
      | (refine AWP.exit ?_; try simp only [thn, inBlk, if_true, reduceIte, Nat.reduceEqDiff])
      | (refine AWP.ret ?_; try dsimp only [thn, inBlk])
      | (refine AWP.condT ?_ ?_; (focus (simp [go_sem, ↓allocC, ↓buildC, c1, lk, c3]; done)))
      | (refine AWP.condF ?_ ?_; (focus (simp [go_sem, ↓allocC, ↓buildC, c1, lk, c3]; done)))
      | (apply AWP.rE; (focus (simp [go_sem, ↓allocC, ↓buildC, c1, lk, c3]; exact ⟨rfl, rfl⟩)); try dsimp only [thn, inBlk])
      | fail)
    simp [bodyQ, thn, inBlk, resA, resV, go_sem]
    have kz : Own O _ (csc i L :: R) := csc_iff.2 ⟨m, V, hV, (k2.b1.set (.row (cr zC zP) 34 23 true false)).tail.tail⟩
    exact ⟨none, 0, rfl, kz.nil 5 1⟩
  | some c =>
    obtain ⟨j, p, hj, hf, hp, lk⟩ := lk_some hV hI hg k1.b2 hn
    have k2 : Own O (((h.push (.row (cr zC zP) 34 23 true false)).push (.row (cr zC zP) 34 23 true false)).set (h.next + 1) (.row (cr c p) 34 23 true false)) (cell (h.next + 1) (.row (cr c p) 34 23 true false) :: cell h.next (.row (cr zC zP) 34 23 true false) :: cell i (brow m) :: mpc tx crV m V :: (V.map sub ++ R)) := (k1.push (.row (cr zC zP) 34 23 true false)).set _
    have c2 := k2.obj
    have c3 := k2.b1.obj
    by_cases hd : c.g.en < now
    · have e : findR L n now = (zC, false) := by simp [findR, hg, hd]
      rw [e]
      (repeat' first
        | refine AWP.seq ?_
        | refine AWP.block ?_
        | (refine AWP.skip ?_; try dsimp only [thn, inBlk])
        | (refine AWP.exit ?_; try simp only [thn, inBlk, if_true, reduceIte, Nat.reduceEqDiff])
        | (refine AWP.ret ?_; try dsimp only [thn, inBlk])
        | (refine AWP.condT ?_ ?_; (focus (simp [go_sem, ↓allocC, ↓buildC, c1, lk, c2, c3, hd]; done)))
        | (refine AWP.condF ?_ ?_; (focus (simp [go_sem, ↓allocC, ↓buildC, c1, lk, c2, c3, hd]; done)))
        | (apply AWP.rE; (focus (simp [go_sem, ↓allocC, ↓buildC, c1, lk, c2, c3, hd]; exact ⟨rfl, rfl⟩)); try dsimp only [thn, inBlk])
        | fail)
      simp [bodyQ, thn, inBlk, resA, resV, go_sem]
      have kz : Own O _ (csc i L :: R) := csc_iff.2 ⟨m, V, hV, (k2.b1.set (.row (cr zC zP) 34 23 true false)).tail.tail⟩
      exact ⟨none, 0, rfl, kz.nil 5 1⟩
    · have e : findR L n now = (c, true) := by simp [findR, hg, hd]
      rw [e]
      (repeat' first
        | refine AWP.seq ?_
        | refine AWP.block ?_
        | (refine AWP.skip ?_; try dsimp only [thn, inBlk])
        | (refine AWP.exit ?_; try simp only [thn, inBlk, if_true, reduceIte, Nat.reduceEqDiff])
        | (refine AWP.ret ?_; try dsimp only [thn, inBlk])
        | (refine AWP.condT ?_ ?_; (focus (simp [go_sem, ↓allocC, ↓buildC, c1, lk, c2, c3, hd]; done)))
        | (refine AWP.condF ?_ ?_; (focus (simp [go_sem, ↓allocC, ↓buildC, c1, lk, c2, c3, hd]; done)))
        | (apply AWP.rE; (focus (simp [go_sem, ↓allocC, ↓buildC, c1, lk, c2, c3, hd]; exact ⟨rfl, rfl⟩)); try dsimp only [thn, inBlk])
        | fail)
      refine AWP.callE (by simp [go_sem, c2]; exact ⟨rfl, rfl, rfl, rfl, rfl⟩) (by kernel_rfl) ?_
      have htl := hI.tl _ (get_mem hg)
      refine (copied_calls (c := c) (p := p) k2 (fun hh kk => sub_bytes (A := [_, _, _, _]) hp kk) htl).mono ?_
      rintro r h3 ⟨p', rfl, k3⟩
      have c4 := k3.b2.obj
      have k4 := k3.b2.set (.row (cr c p') 34 23 true false)
      have c5 := k4.obj
      refine awpL_restE (by simp [go_sem, c4]; exact ⟨rfl, rfl⟩) ?_; try dsimp only [thn, inBlk]
      (repeat' first
        | refine AWP.seq ?_
        | refine AWP.block ?_
        | (refine AWP.skip ?_; try dsimp only [thn, inBlk])
        | (refine AWP.exit ?_; try simp only [thn, inBlk, if_true, reduceIte, Nat.reduceEqDiff])
        | (refine AWP.ret ?_; try dsimp only [thn, inBlk])
        | (refine AWP.condT ?_ ?_; (focus (simp [go_sem]; done)))
        | (refine AWP.condF ?_ ?_; (focus (simp [go_sem]; done)))
        | (apply AWP.rE; (focus (simp [go_sem]; exact ⟨rfl, rfl⟩)); try dsimp only [thn, inBlk])
        | fail)
      simp [bodyQ, thn, inBlk, resA, resV, go_sem, c5]
      refine ⟨p'.1, p'.2, rfl, ?_⟩
      exact (csc_iff.2 ⟨m, V, hV, Own.toR (A := [_, _]) k4.tail.d1⟩ : Own O _ (csc i L :: tkb c p' :: R)).b1
def dropT (L : CL) (n : List UInt8) : CL := L.filter fun p => !(p.1 == n)
theorem drop_eq {n : List UInt8} {V : List KV} (f : KV → Bool) (hf : ∀ p, f p = !(p.1 == n)) : V.filter f = V.filter fun p => !(p.1 == n) := List.filter_congr fun p _ => hf p
theorem er_drop {n : List UInt8} (hV : er V = L) : er (V.filter fun p => !(p.1 == n)) = dropT L n := by
  rw [← hV, er, er, dropT, List.filter_map]; rfl
set_option maxHeartbeats 8000000 in
theorem drop_calls {n : List UInt8} (hI : CI L) (k : Own O h (csc i L :: R)) (hn : n.length ≤ 1000000) :
    ACalls Tryd.prog 13 #[ptr i, tx n] h fun r h' => r = .bool (get L n).isSome ∧ Own O h' (csc i (dropT L n) :: R) := by
  refine ACalls.of_awp (args := [ptr i, tx n]) (n := 22) Tryd.func13 rfl rfl (by show 2 ≤ 22; omega) ?_
  obtain ⟨m, V, hV, k0⟩ := csc_iff.1 k
  have c1 := k0.obj
  obtain ⟨c, p, lk⟩ : ∃ c p, lookupR Tryd.prog h 53 (.map (some m)) (tx n) true = some (.tuple #[crV (c, p), .bool (get L n).isSome]) := by
    cases hg : get L n with
    | none => exact ⟨_, _, lk_none hV hI hg k0.b1 hn⟩
    | some c =>
      obtain ⟨j, p, _, _, _, lk⟩ := lk_some hV hI hg k0.b1 hn
      exact ⟨_, _, lk⟩
  generalize (get L n).isSome = b at lk
  have k2 := k0.push (.row (cr c p) 34 23 true false)
  have c2 := k2.obj
  have c3 := k2.b1.obj
  obtain ⟨h9, e9, n9, k9⟩ := k2.b2.map_del txEnc Tryd.underlying53 (x := n) hn (er_kl hV hI) (er_nd hV hI)
  rw [drop_eq (n := n) _ (fun p => by by_cases e : p.1 = n <;> simp [e])] at k9
  (repeat' first
    | refine AWP.seq ?_
    | refine AWP.block ?_
    | (refine AWP.skip ?_; try dsimp only [thn, inBlk])
    | (refine AWP.exit ?_; try simp only [thn, inBlk, if_true, reduceIte, Nat.reduceEqDiff])
    | (refine AWP.ret ?_; try dsimp only [thn, inBlk])
    | (refine AWP.condT ?_ ?_; (focus (simp [go_sem, ↓allocC, c1, lk, c2, c3, e9]; done)))
    | (refine AWP.condF ?_ ?_; (focus (simp [go_sem, ↓allocC, c1, lk, c2, c3, e9]; done)))
    | (apply AWP.rE; (focus (simp [go_sem, ↓allocC, c1, lk, c2, c3, e9]; exact ⟨rfl, rfl⟩)); try dsimp only [thn, inBlk])
    | fail)
  simp [bodyQ, thn, inBlk, resA, resV, go_sem]
  exact csc_iff.2 ⟨m, _, er_drop hV, Own.subIn (A := [_, _]) (List.filter_sublist.map sub) k9.d1.b1⟩
/-! ### Servers -/
theorem keys_calls {h : AHeap} {m : Nat} : ACalls Tryd.prog 23 #[.map (some m)] h fun r h' => r = .func (.func 38) #[] #[ptr h.next] ∧ h' = h.push (.row [.map (some m)] 53 1 true false) := by
  refine ACalls.of_awp (args := [.map (some m)]) (n := 4) Tryd.func23 rfl rfl (by show 1 ≤ 4; omega) ?_
  (repeat' first
    | refine AWP.seq ?_
    | refine AWP.block ?_
    | (refine AWP.skip ?_; try dsimp only [thn, inBlk])
    | (refine AWP.exit ?_; try simp only [thn, inBlk, if_true, reduceIte, Nat.reduceEqDiff])
    | (refine AWP.ret ?_; try dsimp only [thn, inBlk])
    | (refine AWP.condT ?_ ?_; (focus (simp [go_sem]; done)))
    | (refine AWP.condF ?_ ?_; (focus (simp [go_sem]; done)))
    | (apply AWP.rE; (focus (simp [go_sem]; exact ⟨rfl, rfl⟩)); try dsimp only [thn, inBlk])
    | fail)
  simp [bodyQ, thn, inBlk, resA, resV, go_sem]
abbrev srt (l : List (List UInt8)) : List (List UInt8) := l.mergeSort Go.leB
def srvL (L : CL) : List (List UInt8) := srt (L.map (·.1))
theorem srvL_len (L : CL) : (srvL L).length = L.length := by
  show (List.mergeSort _ _).length = _
  rw [List.length_mergeSort, List.length_map]
set_option maxHeartbeats 8000000 in
theorem servers_calls (hI : CI L) (k : Own O h (csc i L :: R)) :
    ACalls Tryd.prog 11 #[ptr i] h fun r h' => ∃ a cap, r = .slice a (srvL L).length cap ∧ Own O h' (txs (.slice a (srvL L).length cap) (srvL L) :: csc i L :: R) := by
  obtain ⟨m, V, hV, k0⟩ := csc_iff.1 k
  have hmx := hI.mx
  have hvl := er_len hV
  refine ACalls.of_awp (args := [ptr i]) (n := 9) Tryd.func11 rfl rfl (by show 1 ≤ 9; omega) ?_
  have ci := k0.obj
  (repeat' first
    | refine AWP.seq ?_
    | refine AWP.block ?_
    | (refine AWP.skip ?_; try dsimp only [thn, inBlk])
    | (refine AWP.exit ?_; try simp only [thn, inBlk, if_true, reduceIte, Nat.reduceEqDiff])
    | (refine AWP.ret ?_; try dsimp only [thn, inBlk])
    | (refine AWP.condT ?_ ?_; (focus (simp [go_sem]; done)))
    | (refine AWP.condF ?_ ?_; (focus (simp [go_sem]; done)))
    | (apply AWP.rE; (focus (simp [go_sem]; exact ⟨rfl, rfl⟩)); try dsimp only [thn, inBlk])
    | fail)
  refine AWP.callE (by simp [go_sem, ci]; exact ⟨rfl, rfl, rfl, rfl, rfl⟩) (by kernel_rfl) ?_
  refine (keys_calls (m := m)).mono ?_
  rintro r h1 ⟨rfl, rfl⟩
  have k1 := k0.push (.row [.map (some m)] 53 1 true false)
  have cb := k1.obj
  refine awpL_toCall (by simp [go_sem]; exact ⟨rfl, rfl, rfl, rfl, rfl⟩) (by kernel_rfl) ?_
  refine (sorted_calls cb k1.b2 (er_kl hV hI) (by omega) (er_nd hV hI)).mono ?_
  rintro r h2 hv
  obtain ⟨ss, hss⟩ : ∃ ss, ss = srvL L := ⟨_, rfl⟩
  have hsl : ss.length = L.length := by rw [hss, srvL_len]
  have hes : List.mergeSort (V.map (·.1)) Go.leB = ss := by rw [hss, er_keys hV]; rfl
  obtain ⟨va, vc, rfl, k2⟩ : ∃ va vc, r = .slice va ss.length vc ∧ Own O h2 (txs (.slice va ss.length vc) ss :: cell i (brow m) :: mpc tx crV m V :: (V.map sub ++ R)) := by
    rcases hv with ⟨e, rfl, rfl⟩ | ⟨e, rfl, rfl⟩
    · have e0 : ss = [] := List.eq_nil_of_length_eq_zero (by rw [hsl, ← hvl, e]; rfl)
      subst e0
      exact ⟨none, 0, rfl, k1.tail.nil 9 1⟩
    · refine ⟨_, _, by rw [hsl, hvl], ?_⟩
      rw [hes, ← hsl]
      exact (k1.tail.push (.row (ss.map Ab.T) 9 1 false false)).os_mk (n := ss.length) (cap := ss.length) (off := 0) (Nat.le_refl _) (by simp) (by rw [Nat.mul_one, List.drop_zero, List.take_of_length_le (by simp)])
  rw [← hss]
  refine awpL_restE (by simp [go_sem]; exact ⟨rfl, rfl⟩) ?_; try dsimp only [thn, inBlk]
  (repeat' first
    | refine AWP.seq ?_
    | refine AWP.block ?_
    | (refine AWP.skip ?_; try dsimp only [thn, inBlk])
    | (refine AWP.exit ?_; try simp only [thn, inBlk, if_true, reduceIte, Nat.reduceEqDiff])
    | (refine AWP.ret ?_; try dsimp only [thn, inBlk])
    | (refine AWP.condT ?_ ?_; (focus (simp [go_sem]; done)))
    | (refine AWP.condF ?_ ?_; (focus (simp [go_sem]; done)))
    | (apply AWP.rE; (focus (simp [go_sem]; exact ⟨rfl, rfl⟩)); try dsimp only [thn, inBlk])
    | fail)
  simp [bodyQ, thn, inBlk, resA, resV, go_sem]
  have kz : Own O h2 (csc i L :: txs (.slice va ss.length vc) ss :: R) := csc_iff.2 ⟨m, V, hV, Own.toR (A := [_, _]) k2⟩
  exact ⟨va, vc, ⟨rfl, rfl⟩, kz.b1⟩
end
end L11
