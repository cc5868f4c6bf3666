import Derived.Test.YtdhgidgikjefbaaDoorL09i
open Go Ab Go.Proofs
namespace L09
set_option autoImplicit false
set_option linter.unusedSimpArgs false
set_option linter.unusedVariables false

/-! ### What stays true -/
theorem BI.nil : BI [] := ⟨List.nodup_nil, by simp, by simp, by simp⟩
theorem BI.drop {L : BL} (h : BI L) (n : List UInt8) : BI (dropT L n) :=
  ⟨(List.filter_sublist.map _).nodup h.nd, fun p hp => h.kl p (List.mem_filter.1 hp).1, fun p hp => h.kn p (List.mem_filter.1 hp).1, Nat.le_trans (List.length_filter_le _ _) h.mx⟩
theorem set_none {L : BL} {e : En} (hg : get L e.nm = none) : setB L e = L ++ [(e.nm, e)] := by
  have hf : L.findIdx? (fun x => x.1 == e.nm) = none := by
    rw [List.findIdx?_eq_none_iff]
    intro x hx; simpa using get_none hg x hx
  simp only [setB, hf]
theorem set_some {L : BL} {e e0 : En} (hg : get L e.nm = some e0) : ∃ j : Nat, L[j]? = some (e.nm, e0) ∧ setB L e = L.set j (e.nm, e) := by
  obtain ⟨j, hj, hf⟩ := get_some hg
  exact ⟨j, hj, by simp only [setB, hf]⟩
theorem set_map {L : BL} {j : Nat} {p : List UInt8} {e e0 : En} (hj : L[j]? = some (p, e0)) : (L.set j (p, e)).map (·.1) = L.map (·.1) := by
  rw [List.map_set]
  apply List.ext_getElem?
  intro k
  rw [List.getElem?_set]
  split
  · rename_i e; subst e
    rw [List.getElem?_map, hj]
    rw [if_pos (by rw [List.length_map]; exact (List.getElem?_eq_some_iff.1 hj).1)]; rfl
  · rfl
theorem BI.setB {L : BL} (h : BI L) {e : En} (he : e.nm.length ≤ 1000000) (hf : ¬ (get L e.nm = none ∧ 16 ≤ L.length)) : BI (L09.setB L e) := by
  cases hg : get L e.nm with
  | none =>
    have hl : L.length < 16 := by
      refine Nat.lt_of_not_le fun h => hf ⟨hg, h⟩
    rw [set_none hg]
    refine ⟨?_, fun p hp => ?_, fun p hp => ?_, by simp; omega⟩
    · rw [List.map_append, List.nodup_append]
      refine ⟨h.nd, by simp, fun a ha b hb e => ?_⟩
      obtain ⟨x, hx, rfl⟩ := List.mem_map.1 ha
      simp at hb
      exact get_none hg x hx (e.trans hb)
    · rcases List.mem_append.1 hp with hp | hp
      · exact h.kl p hp
      · rw [List.mem_singleton.1 hp]; exact he
    · rcases List.mem_append.1 hp with hp | hp
      · exact h.kn p hp
      · rw [List.mem_singleton.1 hp]
  | some e0 =>
    obtain ⟨j, hj, e1⟩ := set_some hg
    rw [e1]
    refine ⟨by rw [set_map hj]; exact h.nd, fun p hp => ?_, fun p hp => ?_, by rw [List.length_set]; exact h.mx⟩
    · rcases List.mem_or_eq_of_mem_set hp with hp | hp
      · exact h.kl p hp
      · rw [hp]; exact he
    · rcases List.mem_or_eq_of_mem_set hp with hp | hp
      · exact h.kn p hp
      · rw [hp]
theorem BI.put {L : BL} (h : BI L) {e : En} (he : e.nm.length ≤ 1000000) : BI (putR L e).2 := by
  unfold putR
  split
  · exact h
  split
  · exact h
  · rename_i hf; exact h.setB he hf
/-- Another name's entry. -/
theorem get_app {L : BL} {x : List UInt8 × En} {p : List UInt8} (h : x.1 ≠ p) : get (L ++ [x]) p = get L p := by
  unfold get
  rw [List.find?_append]
  have : (x.1 == p) = false := by simpa using h
  simp [this]
theorem find_set_ne {α : Type} {f : α → Bool} {y : α} : ∀ {l : List α} {j : Nat} {x : α}, l[j]? = some x → f x = false → f y = false → (l.set j y).find? f = l.find? f
  | [], j, x, h, _, _ => by simp at h
  | z :: l, 0, x, h, h1, h2 => by
    simp at h; subst h
    simp [h1, h2]
  | z :: l, j + 1, x, h, h1, h2 => by
    simp only [List.getElem?_cons_succ] at h
    rw [List.set_cons_succ, List.find?_cons, List.find?_cons, find_set_ne h h1 h2]
theorem get_setB {L : BL} {e : En} {p : List UInt8} (h : e.nm ≠ p) : get (setB L e) p = get L p := by
  cases hg : get L e.nm with
  | none => rw [set_none hg]; exact get_app h
  | some e0 =>
    obtain ⟨j, hj, e1⟩ := set_some hg
    rw [e1]
    have hb : (e.nm == p) = false := by simpa using h
    unfold get
    rw [find_set_ne hj hb hb]
theorem get_putR {L : BL} {e : En} {p : List UInt8} (h : e.nm ≠ p) : get (putR L e).2 p = get L p := by
  unfold putR
  split
  · rfl
  split
  · rfl
  · exact get_setB h
theorem get_dropT {L : BL} {n p : List UInt8} (h : n ≠ p) : get (dropT L n) p = get L p := by
  unfold get dropT
  rw [List.find?_filter]
  congr 2
  funext x
  by_cases e : x.1 = p
  · have : (x.1 == n) = false := by rw [e]; simpa using fun e : p = n => h e.symm
    simp [this]
    rw [e]; simp
  · simp [e]
theorem get_self {L : BL} {n : List UInt8} : get (dropT L n) n = none := by
  unfold get dropT
  rw [Option.map_eq_none_iff, List.find?_eq_none]
  intro x hx
  have := (List.mem_filter.1 hx).2
  simpa using this
theorem get_setB_self {L : BL} (h : BI L) {e : En} (hk : BI (setB L e)) : get (setB L e) e.nm = some e := by
  have : (e.nm, e) ∈ setB L e := by
    cases hg : get L e.nm with
    | none => rw [set_none hg]; simp
    | some e0 =>
      obtain ⟨j, hj, e1⟩ := set_some hg
      rw [e1]
      exact List.mem_of_getElem? (i := j) (by rw [List.getElem?_set_self (List.getElem?_eq_some_iff.1 hj).1])
  exact get_of_mem hk.nd this

/-! ### The document's example -/
theorem build2 {nm : List UInt8} {z : Int} : buildP Tryd.prog 34 [(0, tx nm), (2, .int .i64 z)] = some (enV ⟨nm, [], z, 0, false⟩) := by kernel_rfl
theorem build3 {nm : List UInt8} {z : Int} {b : Bool} : buildP Tryd.prog 34 [(0, tx nm), (2, .int .i64 z), (4, .bool b)] = some (enV ⟨nm, [], z, 0, b⟩) := by kernel_rfl
abbrev aB : List UInt8 := [97, 64, 82]
abbrev e0 : En := ⟨aB, [], 5, 0, true⟩
theorem sp1 : putR [] e0 = (0, [(aB, e0)]) := by kernel_rfl
theorem sp2 : getR [(aB, e0)] aB = (zE, false) := by kernel_rfl
theorem speaks_calls {O : Old} {h : AHeap} {R : List Chunk} (k : Own O h R) : ACalls Tryd.prog 6 #[] h fun v h' => v = .bool true ∧ Own O h' R := by
  refine ACalls.of_awp (args := []) (n := 28) Tryd.func6 rfl rfl (by show 0 ≤ 28; omega) ?_
  (repeat' first
    | refine AWP.seq ?_
    | refine AWP.block ?_
    | (refine AWP.skip ?_; try dsimp only [thn, inBlk])
    | (refine AWP.exit ?_; try simp only [thn, inBlk, if_true, reduceIte, Nat.reduceEqDiff])
    | (refine AWP.ret ?_; try dsimp only [thn, inBlk])
    | (refine AWP.condT ?_ ?_; (focus (simp [go_sem]; done)))
    | (refine AWP.condF ?_ ?_; (focus (simp [go_sem]; done)))
    | (apply AWP.rE; (focus (simp [go_sem]; exact ⟨rfl, rfl⟩)); try dsimp only [thn, inBlk])
    | fail)
  refine AWP.callE (by simp [go_sem]; exact ⟨rfl, rfl, rfl, rfl, rfl⟩) (by kernel_rfl) ?_
  refine (new_calls k).mono ?_
  rintro r h1 ⟨i, rfl, k1⟩
  refine awpL_restE (by simp [go_sem]; exact ⟨rfl, rfl⟩) ?_; try dsimp only [thn, inBlk]
  (repeat' first
    | refine AWP.seq ?_
    | refine AWP.block ?_
    | (refine AWP.skip ?_; try dsimp only [thn, inBlk])
    | (refine AWP.exit ?_; try simp only [thn, inBlk, if_true, reduceIte, Nat.reduceEqDiff])
    | (refine AWP.ret ?_; try dsimp only [thn, inBlk])
    | (refine AWP.condT ?_ ?_; (focus (simp [go_sem]; done)))
    | (refine AWP.condF ?_ ?_; (focus (simp [go_sem]; done)))
    | (apply AWP.rE; (focus (simp [go_sem]; exact ⟨rfl, rfl⟩)); try dsimp only [thn, inBlk])
    | fail)
  have b3 : buildP Tryd.prog 34 [(0, .string ⟨#[97, 64, 82]⟩), (2, .int .i64 5), (4, .bool true)] = some (enV e0) := build3
  refine AWP.callE (by simp [go_sem, ↓b3]; exact ⟨rfl, rfl, rfl, rfl, rfl⟩) (by kernel_rfl) ?_
  refine (put_calls (e := e0) BI.nil k1 (by decide)).mono ?_
  rintro r h2 ⟨rfl, k2⟩
  rw [sp1] at k2 ⊢
  have bi : BI [(aB, e0)] := by have := BI.nil.put (e := e0) (by decide); rw [sp1] at this; exact this
  refine awpL_restE (by simp [go_sem]; exact ⟨rfl, rfl⟩) ?_; try dsimp only [thn, inBlk]
  (repeat' first
    | refine AWP.seq ?_
    | refine AWP.block ?_
    | (refine AWP.skip ?_; try dsimp only [thn, inBlk])
    | (refine AWP.exit ?_; try simp only [thn, inBlk, if_true, reduceIte, Nat.reduceEqDiff])
    | (refine AWP.ret ?_; try dsimp only [thn, inBlk])
    | (refine AWP.condT ?_ ?_; (focus (simp [go_sem]; done)))
    | (refine AWP.condF ?_ ?_; (focus (simp [go_sem]; done)))
    | (apply AWP.rE; (focus (simp [go_sem]; exact ⟨rfl, rfl⟩)); try dsimp only [thn, inBlk])
    | fail)
  refine AWP.callE (by simp [go_sem]; exact ⟨rfl, rfl, rfl, rfl, rfl⟩) (by kernel_rfl) ?_
  refine (get_calls (n := aB) bi k2 (by decide)).mono ?_
  rintro r h3 ⟨rfl, k3⟩
  rw [sp2]
  have k4 := (k3.push (.row (en zE) 34 20 true false)).b1
  refine awpL_restE (by simp [go_sem, ↓allocE]; exact ⟨rfl, rfl⟩) ?_; try dsimp only [thn, inBlk]
  (repeat' first
    | refine AWP.seq ?_
    | refine AWP.block ?_
    | (refine AWP.skip ?_; try dsimp only [thn, inBlk])
    | (refine AWP.exit ?_; try simp only [thn, inBlk, if_true, reduceIte, Nat.reduceEqDiff])
    | (refine AWP.ret ?_; try dsimp only [thn, inBlk])
    | (refine AWP.condT ?_ ?_; (focus (simp [go_sem]; done)))
    | (refine AWP.condF ?_ ?_; (focus (simp [go_sem]; done)))
    | (apply AWP.rE; (focus (simp [go_sem]; exact ⟨rfl, rfl⟩)); try dsimp only [thn, inBlk])
    | fail)
  refine AWP.callE (by simp [go_sem]; exact ⟨rfl, rfl, rfl, rfl, rfl⟩) (by kernel_rfl) ?_
  refine (list_calls bi k4).mono ?_
  rintro r h5 ⟨a5, c5, rfl, k5⟩
  rw [listL_len]
  refine awpL_restE (by simp [go_sem]; exact ⟨rfl, rfl⟩) ?_; try dsimp only [thn, inBlk]
  (repeat' first
    | refine AWP.seq ?_
    | refine AWP.block ?_
    | (refine AWP.skip ?_; try dsimp only [thn, inBlk])
    | (refine AWP.exit ?_; try simp only [thn, inBlk, if_true, reduceIte, Nat.reduceEqDiff])
    | (refine AWP.ret ?_; try dsimp only [thn, inBlk])
    | (refine AWP.condT ?_ ?_; (focus (simp [go_sem]; done)))
    | (refine AWP.condF ?_ ?_; (focus (simp [go_sem]; done)))
    | (apply AWP.rE; (focus (simp [go_sem]; exact ⟨rfl, rfl⟩)); try dsimp only [thn, inBlk])
    | fail)
  simp [bodyQ, thn, inBlk, resA, resV, go_sem]
  exact k5.tail.tail.tail
end L09
