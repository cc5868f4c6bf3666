import Derived.Test.YtfdkdkhmblhehaaL01d
open Go Ab Go.Proofs
namespace T1
set_option autoImplicit false
set_option linter.unusedSimpArgs false
set_option linter.unusedVariables false
attribute [local go_sem] tsz5 tby5 tz5 nI24 Try.underlying24 Try.underlying5 agg5 agg3 Try.underlying3 Try.underlying4 Try.underlying23 Try.underlying32 Try.underlying9 Try.underlying46 Try.underlying29 Try.underlying45 tsz46 tby46 tz46 tsz3 tsz24 agg46 agg24 nI29

/-! ### Plain laws of fields -/
theorem splitGo_zero (acc : List F) (rest : List UInt8) : splitGo acc (0 :: rest) = ([], 21) := by rw [splitGo.eq_def]; simp
theorem splitGo_one (acc : List F) {b : UInt8} (h : b ≠ 0) : splitGo acc [b] = ([], 20) := by rw [splitGo.eq_def]; simp [h]
theorem splitGo_two (acc : List F) {b c : UInt8} (h : b ≠ 0) : splitGo acc [b, c] = ([], 20) := by rw [splitGo.eq_def]; simp [h]
theorem splitGo_big (acc : List F) {b c d : UInt8} {body : List UInt8} (h : b ≠ 0) (hl : body.length < 256 * c.toNat + d.toNat) : splitGo acc (b :: c :: d :: body) = ([], 20) := by rw [splitGo]; simp [h, hl]
theorem splitGo_step (acc : List F) {b c d : UInt8} {body : List UInt8} (h : b ≠ 0) (hl : ¬ body.length < 256 * c.toNat + d.toNat) :
    splitGo acc (b :: c :: d :: body) = splitGo (acc ++ [((b.toNat : Int), body.take (256 * c.toNat + d.toNat))]) (body.drop (256 * c.toNat + d.toNat)) := by rw [splitGo]; simp [h, hl]

theorem splitGo_ind {M : List UInt8 → Prop} (h0 : M []) (hz : ∀ rest, M (0 :: rest)) (h1 : ∀ b, b ≠ 0 → M [b]) (h2 : ∀ b c, b ≠ 0 → M [b, c]) (h3 : ∀ b c d body, b ≠ 0 → body.length < 256 * c.toNat + d.toNat → M (b :: c :: d :: body))
    (h4 : ∀ b c d body, b ≠ 0 → ¬ body.length < 256 * c.toNat + d.toNat → M (body.drop (256 * c.toNat + d.toNat)) → M (b :: c :: d :: body)) : ∀ bs, M bs := by
  have key : ∀ n bs, bs.length = n → M bs := by
    intro n
    induction n using Nat.strongRecOn with
    | _ n ih =>
      intro bs hn
      rcases bs with _ | ⟨b, rest⟩
      · exact h0
      · by_cases hb : b = 0
        · subst hb; exact hz rest
        · rcases rest with _ | ⟨c, _ | ⟨d, body⟩⟩
          · exact h1 b hb
          · exact h2 b c hb
          · by_cases hl : body.length < 256 * c.toNat + d.toNat
            · exact h3 b c d body hb hl
            · exact h4 b c d body hb hl (ih _ (by simp at hn ⊢; omega) _ rfl)
  exact fun bs => key _ bs rfl

theorem splitGo_err (bs : List UInt8) : ∀ acc, (splitGo acc bs).2 ≠ 0 → (splitGo acc bs).1 = [] ∧ ((splitGo acc bs).2 = 20 ∨ (splitGo acc bs).2 = 21) := by
  revert bs
  refine splitGo_ind ?_ ?_ ?_ ?_ ?_ ?_
  · intro acc h; rw [splitGo] at h; exact absurd rfl h
  · intro rest acc h; rw [splitGo_zero]; exact ⟨rfl, .inr rfl⟩
  · intro b hb acc h; rw [splitGo_one acc hb]; exact ⟨rfl, .inl rfl⟩
  · intro b c hb acc h; rw [splitGo_two acc hb]; exact ⟨rfl, .inl rfl⟩
  · intro b c d body hb hl acc h; rw [splitGo_big acc hb hl]; exact ⟨rfl, .inl rfl⟩
  · intro b c d body hb hl ih acc h
    rw [splitGo_step acc hb hl] at h ⊢
    exact ih _ h

/-- With or without what is there. -/
theorem splitGo_acc (bs : List UInt8) : ∀ acc, splitGo acc bs = if (splitGo [] bs).2 = 0 then (acc ++ (splitGo [] bs).1, 0) else ([], (splitGo [] bs).2) := by
  revert bs
  refine splitGo_ind ?_ ?_ ?_ ?_ ?_ ?_
  · intro acc; simp [splitGo]
  · intro rest acc; rw [splitGo_zero, splitGo_zero]; rfl
  · intro b hb acc; rw [splitGo_one acc hb, splitGo_one [] hb]; rfl
  · intro b c hb acc; rw [splitGo_two acc hb, splitGo_two [] hb]; rfl
  · intro b c d body hb hl acc; rw [splitGo_big acc hb hl, splitGo_big [] hb hl]; rfl
  · intro b c d body hb hl ih acc
    rw [splitGo_step acc hb hl, splitGo_step [] hb hl, ih (acc ++ _), ih ([] ++ _)]
    split
    · simp
    · rename_i h; simp [h]

theorem splitGo_append (a b : List UInt8) : ∀ acc, (splitGo acc a).2 = 0 → splitGo acc (a ++ b) = splitGo (splitGo acc a).1 b := by
  revert a
  refine splitGo_ind ?_ ?_ ?_ ?_ ?_ ?_
  · intro acc _; rw [splitGo]; rfl
  · intro rest acc h; rw [splitGo_zero] at h; cases h
  · intro b hb acc h; rw [splitGo_one acc hb] at h; cases h
  · intro b c hb acc h; rw [splitGo_two acc hb] at h; cases h
  · intro b c d body hb hl acc h; rw [splitGo_big acc hb hl] at h; cases h
  · intro b0 c d body hb hl ih acc h
    rw [splitGo_step acc hb hl] at h ⊢
    have hl2 : ¬ (body ++ b).length < 256 * c.toNat + d.toNat := by simp; omega
    rw [List.cons_append, List.cons_append, List.cons_append, splitGo_step acc hb hl2, List.take_append_of_le_length (by omega), List.drop_append_of_le_length (by omega)]
    exact ih _ h

theorem splitGo_form (a b : List UInt8) : ∀ acc, (splitGo acc a).2 = 21 → (splitGo acc (a ++ b)).2 = 21 := by
  revert a
  refine splitGo_ind ?_ ?_ ?_ ?_ ?_ ?_
  · intro acc h; rw [splitGo] at h; cases h
  · intro rest acc h; rw [List.cons_append, splitGo_zero]
  · intro b hb acc h; rw [splitGo_one acc hb] at h; cases h
  · intro b c hb acc h; rw [splitGo_two acc hb] at h; cases h
  · intro b c d body hb hl acc h; rw [splitGo_big acc hb hl] at h; cases h
  · intro b0 c d body hb hl ih acc h
    rw [splitGo_step acc hb hl] at h
    have hl2 : ¬ (body ++ b).length < 256 * c.toNat + d.toNat := by simp; omega
    rw [List.cons_append, List.cons_append, List.cons_append, splitGo_step acc hb hl2, List.take_append_of_le_length (by omega), List.drop_append_of_le_length (by omega)]
    exact ih _ h

theorem encF_of {b c d : UInt8} {body : List UInt8} (hl : ¬ body.length < 256 * c.toNat + d.toNat) : encF ((b.toNat : Int), body.take (256 * c.toNat + d.toNat)) = b :: c :: d :: body.take (256 * c.toNat + d.toNat) := by
  have h1 := c.toNat_lt
  have h2 := d.toNat_lt
  have e : min (256 * c.toNat + d.toNat) body.length = 256 * c.toNat + d.toNat := by omega
  have e1 : UInt8.ofNat ((256 * c.toNat + d.toNat) / 256) = c := by rw [← UInt8.toNat_inj]; simp; omega
  have e2 : UInt8.ofNat (256 * c.toNat + d.toNat) = d := by rw [← UInt8.toNat_inj]; simp
  simp only [encF, Int.toNat_natCast, UInt8.ofNat_toNat, List.length_take, e, e1, e2]
  rfl

/-- What is read is written as the same bytes. -/
theorem join_split (bs : List UInt8) : ∀ acc, (splitGo acc bs).2 = 0 → ∃ gs, (splitGo acc bs).1 = acc ++ gs ∧ (∀ pre, joinGo pre gs = (pre ++ bs, 0)) ∧ tot gs ≤ bs.length := by
  revert bs
  refine splitGo_ind ?_ ?_ ?_ ?_ ?_ ?_
  · intro acc h; exact ⟨[], by rw [splitGo]; simp, fun pre => by simp [joinGo], Nat.le_refl _⟩
  · intro rest acc h; rw [splitGo_zero] at h; cases h
  · intro b hb acc h; rw [splitGo_one acc hb] at h; cases h
  · intro b c hb acc h; rw [splitGo_two acc hb] at h; cases h
  · intro b c d body hb hl acc h; rw [splitGo_big acc hb hl] at h; cases h
  · intro b c d body hb hl ih acc h
    rw [splitGo_step acc hb hl] at h ⊢
    obtain ⟨gs, h1, h2, h3⟩ := ih _ h
    have q0 := b.toNat_lt
    have q1 := c.toNat_lt
    have q2 := d.toNat_lt
    have hb' : b.toNat ≠ 0 := fun e => hb (by rw [← UInt8.toNat_inj]; simpa using e)
    refine ⟨((b.toNat : Int), body.take (256 * c.toNat + d.toNat)) :: gs, by rw [h1]; simp, fun pre => ?_, ?_⟩
    · rw [joinGo, if_neg (by simp only; omega), if_neg (by simp only [List.length_take]; omega), h2, encF_of hl]
      simp
    · simp only [tot, List.length_take, List.length_cons]
      rw [List.length_drop] at h3
      omega

theorem join_one {t : Int} {val : List UInt8} (h1 : 1 ≤ t) (h2 : t ≤ 255) (h3 : val.length ≤ 65535) : joinGo [] [(t, val)] = (encF (t, val), 0) := by
  simp only [joinGo]
  rw [if_neg (by omega), if_neg (by omega)]
  simp

theorem split_cut {t : Int} {val : List UInt8} {n : Nat} (h1 : 1 ≤ t) (h2 : t ≤ 255) (h3 : val.length ≤ 65535) (hn : 1 ≤ n) (hn2 : n ≤ val.length + 2) : splitGo [] ((encF (t, val)).take n) = ([], 20) := by
  have hb : UInt8.ofNat t.toNat ≠ 0 := by
    intro e
    have := congrArg UInt8.toNat e
    simp at this; omega
  simp only [encF]
  rcases n with _ | _ | _ | n
  · omega
  · exact splitGo_one [] hb
  · exact splitGo_two [] hb
  · refine splitGo_big [] hb ?_
    simp; omega
end T1
