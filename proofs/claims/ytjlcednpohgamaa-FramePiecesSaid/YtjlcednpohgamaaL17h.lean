import Derived.Test.YtjlcednpohgamaaL17g
import Derived.Test.YtjlcednpohgamaaAbRecs2
open Go Ab Go.Proofs
namespace L17
set_option autoImplicit false
set_option linter.unusedSimpArgs false
set_option linter.unusedVariables false

theorem nxt_append {l r : List UInt8} {b : Int} {f : Fr} (h : nxt l 0 = (some f, r, b)) (xs : List UInt8) : nxt (l ++ xs) 0 = (some f, r ++ xs, 0) := by
  unfold nxt at h
  split at h
  · rename_i c t
    split at h
    · cases h
    · rename_i h4
      split at h
      · rename_i x y body
        rw [if_neg (by simp)] at h
        split at h
        · cases h
        · rename_i h5
          split at h
          · cases h
          · rename_i h6
            cases h
            simp only [List.cons_append, nxt, if_neg h4]
            rw [if_neg (by simp), if_neg h5, if_neg (by simp; omega), List.take_append_of_le_length (by omega), List.drop_append_of_le_length (by omega)]
      · cases h
  · cases h

theorem parse_append {l r : List UInt8} {fs : List Fr} (h : parse l = (fs, r, 0)) (xs : List UInt8) : parse (l ++ xs) = (fs ++ (parse (r ++ xs)).1, (parse (r ++ xs)).2) := by
  match e : nxt l 0 with
  | (none, r', b) =>
    rw [parse_none e] at h
    cases h
    simp
  | (some f, r', b) =>
    rw [parse_some e] at h
    have hl := nxt_len e
    have h1 : f :: (parse r').1 = fs := congrArg Prod.fst h
    have h2 : (parse r').2 = (r, 0) := congrArg Prod.snd h
    have := parse_append (l := r') (fs := (parse r').1) (r := r) (by rw [← h2]) xs
    rw [parse_some (nxt_append e xs), this, ← h1]
    simp
termination_by l.length
end L17
