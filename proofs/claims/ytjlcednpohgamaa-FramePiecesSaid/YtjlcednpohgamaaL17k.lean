import Derived.Test.YtjlcednpohgamaaL17j
import Derived.Test.YtjlcednpohgamaaAbWalk3
open Go Ab Go.Proofs
namespace L17
set_option autoImplicit false
set_option linter.unusedSimpArgs false
set_option linter.unusedVariables false

/-! ### The head of a good stream -/
theorem nxt_prefix {a : List UInt8} {r : List UInt8} {e : Int} (h : nxt a 0 = (none, r, e)) (he : e ≠ 0) (b : List UInt8) : ∃ r', nxt (a ++ b) 0 = (none, r', e) := by
  unfold nxt at h
  split at h
  · rename_i c t
    split at h
    · rename_i h4
      cases h
      exact ⟨_, by simp only [List.cons_append, nxt, if_pos h4]; rfl⟩
    · rename_i h4
      split at h
      · rename_i x y body
        rw [if_neg (by simp)] at h
        split at h
        · rename_i h5
          cases h
          exact ⟨_, by simp only [List.cons_append, nxt, if_neg h4]; rw [if_neg (by simp), if_pos h5]⟩
        · split at h
          · cases h; exact absurd rfl he
          · cases h
      · cases h; exact absurd rfl he
  · cases h; exact absurd rfl he

theorem parse_prefix : ∀ (a b : List UInt8), (parse (a ++ b)).2.2 = 0 → (parse a).2.2 = 0 := fun a b hab => by
  match e : nxt a 0 with
  | (none, r', k) =>
    rw [parse_none e]
    rcases Classical.em (k = 0) with rfl | hk
    · rfl
    · obtain ⟨r2, e2⟩ := nxt_prefix e hk b
      rw [parse_none e2] at hab; exact hab
  | (some f, r', k) =>
    have hl := nxt_len e
    rw [parse_some e]
    refine parse_prefix r' b ?_
    rw [parse_some (nxt_append e b)] at hab
    exact hab
termination_by a => a.length

/-- What is left of bytes holds no whole frame. -/
theorem parse_left : ∀ (a : List UInt8), (parse a).2.2 = 0 → parse (parse a).2.1 = ([], (parse a).2.1, 0) := fun a ha => by
  match e : nxt a 0 with
  | (none, r', k) =>
    rw [parse_none e] at ha ⊢
    simp only at ha ⊢
    subst ha
    exact parse_none e
  | (some f, r', k) =>
    have hl := nxt_len e
    rw [parse_some e] at ha ⊢
    exact parse_left r' ha
termination_by a => a.length

/-- A piece of a good stream. -/
theorem feed_piece {r all : List UInt8} {rs : List Fr} (k : Nat) (h : parse (r ++ all) = (rs, [], 0)) :
    ∃ f r', feedR r 0 (all.take k) = (f, r', 0) ∧ rs = f ++ (parse (r' ++ all.drop k)).1 ∧ (parse (r' ++ all.drop k)).2 = ([], 0) ∧ r'.length ≤ r.length + (all.take k).length ∧ parse r' = ([], r', 0) := by
  have e : r ++ all = (r ++ all.take k) ++ all.drop k := by rw [List.append_assoc, List.take_append_drop]
  have h0 : (parse (r ++ all.take k)).2.2 = 0 := parse_prefix _ (all.drop k) (by rw [← e, h])
  obtain ⟨f, r', b, hp⟩ : ∃ f r' b, parse (r ++ all.take k) = (f, r', b) := ⟨_, _, _, rfl⟩
  rw [hp] at h0
  simp only at h0
  subst h0
  have h2 := parse_append hp (all.drop k)
  rw [← e, h] at h2
  refine ⟨f, r', by simp [feedR, hp], congrArg Prod.fst h2, (congrArg Prod.snd h2).symm, ?_, ?_⟩
  · have := parse_rest (r ++ all.take k)
    rw [hp, List.length_append] at this
    simp only at this
    omega
  · have := parse_left (r ++ all.take k) (by rw [hp])
    rw [hp] at this
    exact this

/-- The frames whose bodies are those that came in. -/
def rt (h0 : AHeap) (v : Value) (fs : List Fr) : Chunk := ex fun ac : List (Option Addr × Nat) => pur (ac.length = fs.length ∧ ∀ (j : Nat) (f : Fr) (p : Option Addr × Nat), fs[j]? = some f → ac[j]? = some p → Bytes h0 (.slice p.1 f.2.length p.2) f.2) (os 36 2 v fs.length (rcells pre fs ac).flatten)
theorem rt_iff {O : Old} {h h0 : AHeap} {R : List Chunk} {v : Value} {fs : List Fr} : Own O h (rt h0 v fs :: R) ↔ ∃ ac : List (Option Addr × Nat), (ac.length = fs.length ∧ ∀ (j : Nat) (f : Fr) (p : Option Addr × Nat), fs[j]? = some f → ac[j]? = some p → Bytes h0 (.slice p.1 f.2.length p.2) f.2) ∧ Own O h (os 36 2 v fs.length (rcells pre fs ac).flatten :: R) := by
  simp only [rt, Own.ex_iff, Own.pur_iff]
theorem rt_br {h h0 : AHeap} {R : List Chunk} {v : Value} {fs : List Fr} (hb : h0.base = h0.next) (k : Own h0.asOld h (rt h0 v fs :: R)) : BR pre 2 h v fs := by
  obtain ⟨ac, ⟨ha, hx⟩, k⟩ := rt_iff.1 k
  exact ⟨ac, ha, k.os_sl, fun j f p hf hp => (hx j f p hf hp).of_old hb k⟩
theorem rt_app {O : Old} {h h0 : AHeap} {R : List Chunk} {v : Value} {fs : List Fr} {f : Fr} {a : Option Addr} {cap i : Nat} (k : Own O h (rt h0 v fs :: R)) (hx : Bytes h0 (.slice a f.2.length cap) f.2) (ho : h.obj i = some (.row [.int .i64 f.1, .slice a f.2.length cap] 36 2 true false)) (hc : fs.length + 1 ≤ 1000000) :
    ∃ a' cap' h', appendW Try.prog h 27 27 v (.slice (some ⟨i, 0, none⟩) 1 1) = some (.slice a' (fs.length + 1) cap', h') ∧ Own O h' (rt h0 (.slice a' (fs.length + 1) cap') (fs ++ [f]) :: R) := by
  obtain ⟨ac, ⟨ha, hb⟩, k⟩ := rt_iff.1 k
  obtain ⟨v', h', e1, k2⟩ := Own.app (P := Try.prog) (m := 1) (t := 27) (xt := 27) (xs := [.int .i64 f.1, .slice a f.2.length cap]) (xv := .slice (some ⟨i, 0, none⟩) 1 1) Try.underlying27 tsz36 tby36 tz36 nI27 (by omega) (by omega) rfl k (by simp [srcCells, ho]) rfl rfl (by omega)
  obtain ⟨a', cap', rfl⟩ := k2.os_val
  refine ⟨a', cap', h', e1, rt_iff.2 ⟨ac ++ [(a, cap)], ⟨by simp [ha], fun j g p hg hp => ?_⟩, ?_⟩⟩
  · by_cases hj : j < fs.length
    · rw [List.getElem?_append_left hj] at hg
      rw [List.getElem?_append_left (by omega)] at hp
      exact hb j g p hg hp
    · rw [List.getElem?_append_right (by omega)] at hg hp
      rw [ha] at hp
      match hm : j - fs.length with
      | 0 => rw [hm] at hg hp; simp at hg hp; subst hg hp; exact hx
      | n + 1 => rw [hm] at hg; simp at hg
  · have q1 : rcells pre (fs ++ [f]) (ac ++ [(a, cap)]) = rcells pre fs ac ++ [rec1 pre f (a, cap)] := by
      simp only [rcells]; rw [List.zipWith_append ha.symm]; rfl
    rw [q1, List.flatten_append, List.length_append]
    simpa [rec1, pre] using k2

/-- All frames of a list behind those of another. -/
theorem frs_app {O : Old} {h : AHeap} {R : List Chunk} {v w : Value} {fs gs : List Fr} (k : Own O h (frs v fs :: frs w gs :: R)) (hc : fs.length + gs.length ≤ 1000000000) :
    ∃ a' cap' h', appendW Try.prog h 27 27 v w = some (.slice a' (fs.length + gs.length) cap', h') ∧ Own O h' (frs (.slice a' (fs.length + gs.length) cap') (fs ++ gs) :: R) := by
  obtain ⟨ac, ha, k1⟩ := brecs_iff.1 k
  obtain ⟨bc, hb, k2⟩ := brecs_iff.1 ((k1.perm (L' := frs w gs :: (os 36 2 v fs.length (rcells pre fs ac).flatten :: (rbods 5 fs ac ++ R))) (by
    refine (List.Perm.cons _ List.perm_middle).trans ?_
    exact List.Perm.swap _ _ _)))
  have hlen : ((rcells pre gs bc).flatten).length = gs.length * 2 := by
    rw [flat_length (sz := 2) (rcells_all (pre := pre) (fun x => rfl) bc), rcells_length hb]
  have hok : (rcells pre gs bc).flatten.all okCell = true := by
    rw [List.all_eq_true]
    intro x hx
    obtain ⟨y, hy, hxy⟩ := List.mem_flatten.1 hx
    obtain ⟨m, hm⟩ := List.mem_iff_getElem?.1 hy
    simp only [rcells, List.getElem?_zipWith] at hm
    split at hm
    · obtain rfl := Option.some.inj hm
      simp [rec1, pre] at hxy
      rcases hxy with rfl | rfl <;> rfl
    · cases hm
  have sl := k2.os_sl
  obtain ⟨v', h', e1, k3⟩ := Own.app (P := Try.prog) (m := gs.length) (t := 27) (xt := 27) (xs := (rcells pre gs bc).flatten) (xv := w) Try.underlying27 tsz36 tby36 tz36 nI27 (by omega) (by omega) rfl (k2.tail.perm (L' := os 36 2 v fs.length (rcells pre fs ac).flatten :: (rbods 5 gs bc ++ (rbods 5 fs ac ++ R))) List.perm_middle) sl.src hlen hok (by omega)
  obtain ⟨a', cap', rfl⟩ := k3.os_val
  refine ⟨a', cap', h', e1, brecs_iff.2 ⟨ac ++ bc, by simp [ha, hb], ?_⟩⟩
  have q1 : rcells pre (fs ++ gs) (ac ++ bc) = rcells pre fs ac ++ rcells pre gs bc := by
    simp only [rcells]; rw [List.zipWith_append ha.symm]
  have q2 : rbods 5 (fs ++ gs) (ac ++ bc) = rbods 5 fs ac ++ rbods 5 gs bc := by
    simp only [rbods]; rw [List.zipWith_append ha.symm]
  rw [q1, q2, List.flatten_append, List.length_append]
  refine k3.perm (List.Perm.cons _ ?_)
  rw [← List.append_assoc]
  exact List.Perm.append_right R List.perm_append_comm
end L17
