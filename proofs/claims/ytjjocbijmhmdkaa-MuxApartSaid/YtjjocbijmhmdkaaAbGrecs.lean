import Derived.Test.YtjjocbijmhmdkaaAbMaps
namespace Ab
open Go
set_option autoImplicit false
set_option linter.unusedVariables false
set_option linter.unusedSimpArgs false

/-! ### Records of which each owns something -/
section
variable {α γ : Type} (row : α → γ → List Value) (sub : α → γ → Chunk)
def gcells (xs : List α) (ws : List γ) : List (List Value) := List.zipWith row xs ws
def gsubs (xs : List α) (ws : List γ) : List Chunk := List.zipWith sub xs ws
/-- Records, each with what it owns. -/
def grecs (e : TypeId) (sz : Nat) (v : Value) (xs : List α) : Chunk := ex fun ws : List γ => pur (ws.length = xs.length) (star (os e sz v xs.length (gcells row xs ws).flatten :: gsubs sub xs ws))

variable {row sub} {O : Old} {h : AHeap} {R : List Chunk} {e : TypeId} {sz : Nat} {v : Value} {xs ys : List α} {ws : List γ}

theorem grecs_iff : Own O h (grecs row sub e sz v xs :: R) ↔ ∃ ws : List γ, ws.length = xs.length ∧ Own O h (os e sz v xs.length (gcells row xs ws).flatten :: (gsubs sub xs ws ++ R)) := by
  simp only [grecs, Own.ex_iff, Own.pur_iff, Own.star_iff, List.cons_append]

theorem gcells_length (hw : ws.length = xs.length) : (gcells row xs ws).length = xs.length := by simp [gcells, hw]
theorem gsubs_length (hw : ws.length = xs.length) : (gsubs sub xs ws).length = xs.length := by simp [gsubs, hw]
theorem gcells_all (hr : ∀ x w, (row x w).length = sz) : ∀ y ∈ gcells row xs ws, y.length = sz := by
  intro y hy
  obtain ⟨m, hm⟩ := List.mem_iff_getElem?.1 hy
  simp only [gcells, List.getElem?_zipWith] at hm
  split at hm
  · obtain rfl := Option.some.inj hm; exact hr _ _
  · cases hm
theorem gcells_flat (hr : ∀ x w, (row x w).length = sz) (hw : ws.length = xs.length) : (gcells row xs ws).flatten.length = xs.length * sz := by
  rw [flat_length (gcells_all hr), gcells_length hw]
theorem gcells_ok (hk : ∀ x w, (row x w).all okCell = true) : (gcells row xs ws).flatten.all okCell = true := by
  rw [List.all_eq_true]
  intro x hx
  obtain ⟨y, hy, hxy⟩ := List.mem_flatten.1 hx
  obtain ⟨m, hm⟩ := List.mem_iff_getElem?.1 hy
  simp only [gcells, List.getElem?_zipWith] at hm
  split at hm
  · obtain rfl := Option.some.inj hm
    exact List.all_eq_true.1 (hk _ _) x hxy
  · cases hm
theorem gcells_get {j : Nat} {x : α} {w : γ} (hx : xs[j]? = some x) (hw : ws[j]? = some w) : (gcells row xs ws)[j]? = some (row x w) := by simp [gcells, List.getElem?_zipWith, hx, hw]
theorem gsubs_get {j : Nat} {x : α} {w : γ} (hx : xs[j]? = some x) (hw : ws[j]? = some w) : (gsubs sub xs ws)[j]? = some (sub x w) := by simp [gsubs, List.getElem?_zipWith, hx, hw]
theorem gcells_app {zs : List γ} (hw : ws.length = xs.length) : gcells row (xs ++ ys) (ws ++ zs) = gcells row xs ws ++ gcells row ys zs := by
  simp only [gcells]; rw [List.zipWith_append hw.symm]
theorem gsubs_app {zs : List γ} (hw : ws.length = xs.length) : gsubs sub (xs ++ ys) (ws ++ zs) = gsubs sub xs ws ++ gsubs sub ys zs := by
  simp only [gsubs]; rw [List.zipWith_append hw.symm]

theorem Own.grecs_nil (e : TypeId) (sz : Nat) (k : Own O h R) : Own O h (grecs row sub e sz (.slice none 0 0) [] :: R) := grecs_iff.2 ⟨[], rfl, k.nil e sz⟩
theorem Own.grecs_new {i : Nat} (k : Own O h (cell i (.row [] e sz true false) :: R)) : Own O h (grecs row sub e sz (.slice (some ⟨i, 0, none⟩) 0 0) [] :: R) :=
  grecs_iff.2 ⟨[], rfl, k.os_mk (n := 0) (cap := 0) (off := 0) (cs := []) (Nat.le_refl _) (by simp) (by simp)⟩
theorem Own.grecs_val (k : Own O h (grecs row sub e sz v xs :: R)) : ∃ a cap, v = .slice a xs.length cap := by
  obtain ⟨ws, _, k⟩ := grecs_iff.1 k; exact k.os_val

/-- A record that is read, where all stands open. -/
theorem Own.grec_at {P : Program} {t : TypeId} (hr : ∀ x w, (row x w).length = sz) (hw : ws.length = xs.length) (k : Own O h (os e sz v xs.length (gcells row xs ws).flatten :: R)) (ht : P.underlying t = some (.slice e)) (hs : tsz P e = some sz) {j : Nat} {x : α} {w : γ} (hx : xs[j]? = some x) (hwj : ws[j]? = some w) {kd : IntKind} :
    ∃ i off c ti, indexAddrP P t v (.int kd j) = some (.pointer (some ⟨i, off, none⟩)) ∧ h.obj i = some (.row c e sz ti false) ∧ off + sz ≤ c.length ∧ (c.drop off).take sz = row x w ∧ ∀ f y, (row x w)[f]? = some y → c[off + f]? = some y := by
  have hj : j < xs.length := (List.getElem?_eq_some_iff.1 hx).1
  rcases k.os_cases with ⟨rfl, h1, _⟩ | ⟨i, off, cap, c, ti, rfl, h1, h2, h3, k2⟩
  · omega
  · have hmul : (j + 1) * sz ≤ xs.length * sz := Nat.mul_le_mul_right _ hj
    have hmul2 : xs.length * sz ≤ cap * sz := Nat.mul_le_mul_right _ h1
    have hsucc : (j + 1) * sz = j * sz + sz := Nat.succ_mul _ _
    have e1 : (c.drop (off + j * sz)).take sz = row x w := by
      apply List.ext_getElem?
      intro f
      rw [List.getElem?_take]
      split
      · rename_i hf
        rw [List.getElem?_drop]
        have hg := flat_get (l := gcells row xs ws) (j := j) (f := f) (gcells_all hr) hf
        rw [gcells_get hx hwj, ← h3, List.getElem?_take, if_pos (by omega), List.getElem?_drop] at hg
        rw [show off + j * sz + f = off + (j * sz + f) by omega]
        exact hg
      · rw [List.getElem?_eq_none (by rw [hr]; omega)]
    refine ⟨i, off + j * sz, c, ti, ?_, k2.obj, by omega, e1, fun f y hy => ?_⟩
    · simp only [indexAddrP, ht, hs]
      simp [hj, show j < xs.length from hj]
    · rw [← e1, List.getElem?_take] at hy
      split at hy
      · rw [List.getElem?_drop] at hy; exact hy
      · cases hy

/-- One record more. -/
theorem Own.grecs_app {P : Program} {t xt : TypeId} {by_ i : Nat} {z : Value} {x : α} {w : γ} (ht : P.underlying t = some (.slice e)) (hs : tsz P e = some sz) (hb : tby P e = some by_) (hz : tzero P e = some z)
    (hn : noInt P xt = true) (h0 : 0 < sz) (h1 : 0 < by_) (h2 : z.cells.size = sz) (hp : (row x w).length = sz) (hok : (row x w).all okCell = true) (k : Own O h (grecs row sub e sz v xs :: sub x w :: R)) (hi : i = h.next) (hc : (xs.length + 1) * by_ ≤ 140737488355328) :
    ∃ a cap h', appendW P (h.push (.row (row x w) e sz true false)) t xt v (.slice (some ⟨i, 0, none⟩) 1 1) = some (.slice a (xs.length + 1) cap, h') ∧ Own O h' (grecs row sub e sz (.slice a (xs.length + 1) cap) (xs ++ [x]) :: R) := by
  obtain ⟨ws, hw, k⟩ := grecs_iff.1 k
  obtain ⟨a, cap, h', e1, k2⟩ := Own.appN (m := 1) (xs := row x w) ht hs hb hz hn h0 h1 h2 k hi (by omega) hok hc
  refine ⟨a, cap, h', e1, grecs_iff.2 ⟨ws ++ [w], by simp [hw], ?_⟩⟩
  have q1 : gcells row [x] [w] = [row x w] := rfl
  have q2 : gsubs sub [x] [w] = [sub x w] := rfl
  rw [gcells_app hw, gsubs_app hw, q1, q2, List.flatten_append, List.length_append, List.append_assoc]
  simpa using k2

/-- All records of a list behind those of another. -/
theorem Own.grecs_appAll {P : Program} {t xt : TypeId} {by_ : Nat} {z w : Value} (hr : ∀ x w, (row x w).length = sz) (hk : ∀ x w, (row x w).all okCell = true) (ht : P.underlying t = some (.slice e)) (hs : tsz P e = some sz) (hb : tby P e = some by_) (hz : tzero P e = some z)
    (hn : noInt P xt = true) (h0 : 0 < sz) (h1 : 0 < by_) (h2 : z.cells.size = sz) (k : Own O h (grecs row sub e sz v xs :: grecs row sub e sz w ys :: R)) (hc : (xs.length + ys.length) * by_ ≤ 140737488355328) :
    ∃ a cap h', appendW P h t xt v w = some (.slice a (xs.length + ys.length) cap, h') ∧ Own O h' (grecs row sub e sz (.slice a (xs.length + ys.length) cap) (xs ++ ys) :: R) := by
  obtain ⟨ws, hw, k1⟩ := grecs_iff.1 k
  obtain ⟨us, hu, k2⟩ := grecs_iff.1 ((k1.perm (L' := grecs row sub e sz w ys :: (os e sz v xs.length (gcells row xs ws).flatten :: (gsubs sub xs ws ++ R))) ((List.Perm.cons _ List.perm_middle).trans (List.Perm.swap _ _ _))))
  have sl := k2.os_sl
  obtain ⟨v', h', e1, k3⟩ := Own.app (P := P) (m := ys.length) (t := t) (xt := xt) (xs := (gcells row ys us).flatten) (xv := w) ht hs hb hz hn h0 h1 h2 (k2.tail.perm (L' := os e sz v xs.length (gcells row xs ws).flatten :: (gsubs sub ys us ++ (gsubs sub xs ws ++ R))) List.perm_middle) sl.src (gcells_flat hr hu) (gcells_ok hk) hc
  obtain ⟨a, cap, rfl⟩ := k3.os_val
  refine ⟨a, cap, h', e1, grecs_iff.2 ⟨ws ++ us, by simp [hw, hu], ?_⟩⟩
  rw [gcells_app hw, gsubs_app hw, List.flatten_append, List.length_append]
  refine k3.perm (List.Perm.cons _ ?_)
  rw [← List.append_assoc]
  exact List.Perm.append_right R List.perm_append_comm

/-- What one record owns, ahead; and all again behind it. -/
theorem Own.grec_sub (hw : ws.length = xs.length) {A : List Chunk} (k : Own O h (A ++ (gsubs sub xs ws ++ R))) {j : Nat} {x : α} {w : γ} (hx : xs[j]? = some x) (hwj : ws[j]? = some w) : Own O h (sub x w :: (A ++ ((gsubs sub xs ws).eraseIdx j ++ R))) := by
  have hp := (perm_bring (gsubs_get (sub := sub) hx hwj)).symm
  refine k.perm ?_
  refine ((List.Perm.append_left A (hp.append_right R))).trans ?_
  exact List.perm_middle
end

/-- An element of an array that lies in a variable. -/
theorem indexAddr_ptr {P : Program} {t : TypeId} {b off : Nat} {k : IntKind} {i : Int} : indexAddrP P t (.pointer (some ⟨b, off, none⟩)) (.int k i) = (match P.underlying t with
    | some (.array len elem) => if 0 ≤ i ∧ i < len then (tsz P elem).map fun n => .pointer (some ⟨b, off + i.toNat * n, none⟩) else none
    | _ => none) := rfl
attribute [go_sem] indexAddr_ptr
end Ab
