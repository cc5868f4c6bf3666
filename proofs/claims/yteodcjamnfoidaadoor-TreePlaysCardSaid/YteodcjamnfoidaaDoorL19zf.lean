import Derived.Test.YteodcjamnfoidaaDoorL19zd
import Derived.Test.YteodcjamnfoidaaDoorL19ze
open Go Ab Go.Proofs
namespace L19
set_option autoImplicit false
set_option linter.unusedSimpArgs false
set_option linter.unusedVariables false

theorem splitB_at {l : List UInt8} {st i : Nat} (h1 : st ≤ i) (h2 : l[i]? = some 47) (hn : (47 : UInt8) ∉ (l.drop st).take (i - st)) : splitB (l.drop st) = (l.drop st).take (i - st) :: splitB (l.drop (i + 1)) := by
  have hil : i < l.length := (List.getElem?_eq_some_iff.1 h2).1
  have e : l.drop st = (l.drop st).take (i - st) ++ 47 :: l.drop (i + 1) := by
    have e1 : (l.drop st).drop (i - st) = 47 :: l.drop (i + 1) := by
      rw [List.drop_drop, show st + (i - st) = i by omega, List.drop_eq_getElem_cons hil]
      have := (List.getElem?_eq_some_iff.1 h2).2
      rw [this]
    rw [← e1, List.take_append_drop]
  conv => lhs; rw [e]
  rw [splitB_cut _ _ hn]
section
variable {O : Old} {h : AHeap} {R : List Chunk}
theorem txs_app {v : Value} {D : List (List UInt8)} {x : List UInt8} (k : Own O h (os 9 1 v (D.length + 1) (D.map T ++ [tx x]) :: R)) : Own O h (txs v (D ++ [x]) :: R) := by
  have e1 : (D ++ [x]).length = D.length + 1 := by simp
  have e2 : (D ++ [x]).map T = D.map T ++ [tx x] := by simp [T]
  show Own O h (os 9 1 v (D ++ [x]).length ((D ++ [x]).map T) :: R)
  rw [e1, e2]; exact k
set_option maxHeartbeats 8000000 in
theorem rsplit_calls {l : List UInt8} (k : Own O h R) (hm : l.length ≤ 100000) :
    ACalls Tryd.prog 65 #[tx l, .int .u8 47] h fun r h' => ∃ a cap, r = .slice a (splitB l).length cap ∧ Own O h' (txs (.slice a (splitB l).length cap) (splitB l) :: R) := by
  refine ACalls.of_awp (args := [tx l, .int .u8 47]) (n := 36) Tryd.func65 rfl rfl (by show 2 ≤ 36; omega) ?_
  have k1 : Own O _ (txs (.slice (some ⟨h.next, 0, none⟩) 0 0) [] :: R) := (k.push (.row [] 9 1 true false)).row_any (n := 0) rfl
  (repeat' first
    | refine AWP.seq ?_
    | refine AWP.block ?_
    | (refine AWP.skip ?_; try dsimp only [thn, inBlk])
    | (refine AWP.exit ?_; try simp only [thn, inBlk, if_true, reduceIte, Nat.reduceEqDiff])
    | (refine AWP.ret ?_; try dsimp only [thn, inBlk])
    | (refine AWP.condT ?_ ?_; (focus (simp [go_sem]; done)))
    | (refine AWP.condF ?_ ?_; (focus (simp [go_sem]; done)))
    | (apply AWP.rE; (focus (simp [go_sem]; exact ⟨rfl, rfl⟩)); try dsimp only [thn, inBlk])
    | fail)
  refine AWP.loopR [0, 1, 5, 6, 7] (fun m s h' => ∃ (i st : Nat) (a : Option Addr) (cap : Nat) (D : List (List UInt8)), i ≤ l.length + 1 ∧ m = l.length + 1 - i ∧ D.length ≤ i ∧ s = ⟨36, [(0, tx l), (1, .int .u8 47), (5, .slice a D.length cap), (6, .int .i64 st), (7, .int .i64 i)]⟩ ∧
      ((i ≤ l.length ∧ st ≤ i ∧ splitB l = D ++ splitB (l.drop st) ∧ (47 : UInt8) ∉ (l.drop st).take (i - st)) ∨ (i = l.length + 1 ∧ D = splitB l)) ∧ Own O h' (txs (.slice a D.length cap) D :: R)) ?_ ?_
  · exact ⟨_, 0, 0, some ⟨h.next, 0, none⟩, 0, [], by omega, rfl, by simp, by simp [go_sem], .inl ⟨by omega, by omega, by simp, by simp⟩, k1⟩
  rintro m s hB ⟨i, st, a, cap, D, hi, rfl, hDl, rfl, hinv, kB⟩
  rcases hinv with ⟨hil, hst, hs, hn⟩ | ⟨rfl, rfl⟩
  rotate_left
  · have hi' : ¬ ((l.length + 1 : Nat) : Int) ≤ l.length := by omega
    obtain ⟨q, hq⟩ : ∃ q, q = l.length + 1 := ⟨_, rfl⟩
    rw [← hq] at hi' ⊢
    (repeat' first
      | refine AWP.seq ?_
      | refine AWP.block ?_
      | (refine AWP.skip ?_; try dsimp only [thn, inBlk])
      | (refine AWP.exit ?_; try simp only [thn, inBlk, if_true, reduceIte, Nat.reduceEqDiff])
      | (refine AWP.ret ?_; try dsimp only [thn, inBlk])
      | (refine AWP.condT ?_ ?_; (focus (simp [go_sem, hi']; done)))
      | (refine AWP.condF ?_ ?_; (focus (simp [go_sem, hi']; done)))
      | (apply AWP.rE; (focus (simp [go_sem, hi']; exact ⟨rfl, rfl⟩)); try dsimp only [thn, inBlk])
      | fail)
    simp [bodyQ, thn, inBlk, resA, resV, go_sem]
    exact ⟨a, cap, ⟨rfl, rfl⟩, kB⟩
  have hil' : (i : Int) ≤ l.length := by omega
  obtain ⟨p, hp⟩ : ∃ p, p = i + 1 := ⟨_, rfl⟩
  have w1 : IntKind.i64.wrap ((i : Int) + 1) = (p : Int) := by rw [wI64 (by omega) (by omega)]; omega
  have s1 : ∀ hh, sliceR Tryd.prog hh 9 (tx l) (some (.int .i64 (st : Int))) (some (.int .i64 (i : Int))) none = some (tx ((l.drop st).take (i - st))) := fun hh => by
    rw [← List.drop_take]
    exact str_slice (P := Tryd.prog) (h := hh) Tryd.underlying9 (l := l) (lo := st) (hi := i) (a := some (.int .i64 (st : Int))) (u := some (.int .i64 (i : Int))) hst hil (.inr ⟨.i64, rfl⟩) (.inr ⟨.i64, rfl⟩)
  obtain ⟨x, hx⟩ : ∃ x, x = (l.drop st).take (i - st) := ⟨_, rfl⟩
  obtain ⟨na, nc, h7, e7, k7⟩ := Own.appN (P := Tryd.prog) (t := 69) (xt := 69) (m := 1) (xs := [tx x]) (i := hB.next) Tryd.underlying69 tsz9 tby9 tz9 nI69 (by omega) (by omega) (by rfl) kB rfl rfl rfl (by omega)
  have k8 := txs_app k7
  have hDl2 : (D ++ [x]).length = D.length + 1 := by simp
  simp only [← hx] at s1
  by_cases hil2 : i = l.length
  · have hil2' : ((i : Int) == l.length) = true := by rw [hil2]; simp
    have hfin : D ++ [x] = splitB l := by
      rw [hs, hx, hil2]
      have e : (l.drop st).take (l.length - st) = l.drop st := List.take_of_length_le (by simp)
      rw [hil2, e] at hn
      rw [e, splitB_one (l.drop st) (List.count_eq_zero.2 hn)]
    (repeat' first
      | refine AWP.seq ?_
      | refine AWP.block ?_
      | (refine AWP.skip ?_; try dsimp only [thn, inBlk])
      | (refine AWP.exit ?_; try simp only [thn, inBlk, if_true, reduceIte, Nat.reduceEqDiff])
      | (refine AWP.ret ?_; try dsimp only [thn, inBlk])
      | (refine AWP.condT ?_ ?_; (focus (simp [go_sem, hil', hil2', s1, e7, w1]; done)))
      | (refine AWP.condF ?_ ?_; (focus (simp [go_sem, hil', hil2', s1, e7, w1]; done)))
      | (apply AWP.rE; (focus (simp [go_sem, hil', hil2', s1, e7, w1]; exact ⟨rfl, rfl⟩)); try dsimp only [thn, inBlk])
      | fail)
    exact ⟨l.length + 1 - p, by omega, p, p, na, nc, D ++ [x], by omega, rfl, by omega, by rw [hDl2]; simp [go_sem], .inr ⟨by omega, hfin⟩, by rw [hDl2]; exact k8⟩
  have hlt : i < l.length := by omega
  have hil2' : ((i : Int) == l.length) = false := by simp; omega
  have x1 : indexP Tryd.prog 9 (tx l) (.int .i64 (i : Int)) = some (.int .u8 l[i].toNat) := str_index Tryd.underlying9 hlt
  have hci : l[i]? = some l[i] := List.getElem?_eq_getElem hlt
  generalize l[i] = c at x1 hci
  by_cases h47 : c = 47
  · have h47' : ((c.toNat : Int) == 47) = true := by rw [h47]; rfl
    rw [h47] at hci
    have hsp := splitB_at hst hci hn
    (repeat' first
      | refine AWP.seq ?_
      | refine AWP.block ?_
      | (refine AWP.skip ?_; try dsimp only [thn, inBlk])
      | (refine AWP.exit ?_; try simp only [thn, inBlk, if_true, reduceIte, Nat.reduceEqDiff])
      | (refine AWP.ret ?_; try dsimp only [thn, inBlk])
      | (refine AWP.condT ?_ ?_; (focus (simp [go_sem, hil', hil2', x1, h47', s1, e7, w1]; done)))
      | (refine AWP.condF ?_ ?_; (focus (simp [go_sem, hil', hil2', x1, h47', s1, e7, w1]; done)))
      | (apply AWP.rE; (focus (simp [go_sem, hil', hil2', x1, h47', s1, e7, w1]; exact ⟨rfl, rfl⟩)); try dsimp only [thn, inBlk])
      | fail)
    refine ⟨l.length + 1 - p, by omega, p, p, na, nc, D ++ [x], by omega, rfl, by omega, by rw [hDl2]; simp [go_sem], .inl ⟨by omega, by omega, ?_, by simp⟩, by rw [hDl2]; exact k8⟩
    rw [hs, hsp, hx, hp]; simp
  · have h47' : ((c.toNat : Int) == 47) = false := neI h47
    (repeat' first
      | refine AWP.seq ?_
      | refine AWP.block ?_
      | (refine AWP.skip ?_; try dsimp only [thn, inBlk])
      | (refine AWP.exit ?_; try simp only [thn, inBlk, if_true, reduceIte, Nat.reduceEqDiff])
      | (refine AWP.ret ?_; try dsimp only [thn, inBlk])
      | (refine AWP.condT ?_ ?_; (focus (simp [go_sem, hil', hil2', x1, h47', w1]; done)))
      | (refine AWP.condF ?_ ?_; (focus (simp [go_sem, hil', hil2', x1, h47', w1]; done)))
      | (apply AWP.rE; (focus (simp [go_sem, hil', hil2', x1, h47', w1]; exact ⟨rfl, rfl⟩)); try dsimp only [thn, inBlk])
      | fail)
    refine ⟨l.length + 1 - p, by omega, p, st, a, cap, D, by omega, rfl, by omega, by simp [go_sem], .inl ⟨by omega, by omega, hs, ?_⟩, kB⟩
    rw [hp, show i + 1 - st = (i - st) + 1 by omega, List.take_add_one, List.getElem?_drop, show st + (i - st) = i by omega, hci]
    simp only [Option.toList_some, List.mem_append, List.mem_singleton, not_or]
    exact ⟨hn, fun e => h47 e.symm⟩
set_option maxHeartbeats 8000000 in
theorem rpath_calls {l : List UInt8} (k : Own O h R) (hm : l.length ≤ 100000) :
    ACalls Tryd.prog 57 #[tx l] h fun r h' => r = .bool (pathB l) ∧ Own O h' R := by
  refine ACalls.of_awp (args := [tx l]) (n := 33) Tryd.func57 rfl rfl (by show 1 ≤ 33; omega) ?_
  by_cases h1 : l = [47]
  · subst h1
    (repeat' first
      | refine AWP.seq ?_
      | refine AWP.block ?_
      | (refine AWP.skip ?_; try dsimp only [thn, inBlk])
      | (refine AWP.exit ?_; try simp only [thn, inBlk, if_true, reduceIte, Nat.reduceEqDiff])
      | (refine AWP.ret ?_; try dsimp only [thn, inBlk])
      | (refine AWP.condT ?_ ?_; (focus (simp [go_sem]; done)))
      | (refine AWP.condF ?_ ?_; (focus (simp [go_sem]; done)))
      | (apply AWP.rE; (focus (simp [go_sem]; exact ⟨rfl, rfl⟩)); try dsimp only [thn, inBlk])
      | fail)
    simp [bodyQ, thn, inBlk, resA, resV, go_sem]
    exact ⟨rfl, k⟩
  have h1' : (l == [47]) = false := by simpa using h1
  by_cases h2 : l.length < 2
  · have h2' : (l.length : Int) < 2 := by omega
    have e : pathB l = false := by
      rcases l with _ | ⟨c, _ | ⟨d, l⟩⟩
      · rfl
      · have hc : c ≠ 47 := fun e => h1 (by rw [e])
        simp [pathB, cut47, hc]
      · simp at h2; omega
    rw [e]
    (repeat' first
      | refine AWP.seq ?_
      | refine AWP.block ?_
      | (refine AWP.skip ?_; try dsimp only [thn, inBlk])
      | (refine AWP.exit ?_; try simp only [thn, inBlk, if_true, reduceIte, Nat.reduceEqDiff])
      | (refine AWP.ret ?_; try dsimp only [thn, inBlk])
      | (refine AWP.condT ?_ ?_; (focus (simp [go_sem, h1', h2']; done)))
      | (refine AWP.condF ?_ ?_; (focus (simp [go_sem, h1', h2']; done)))
      | (apply AWP.rE; (focus (simp [go_sem, h1', h2']; exact ⟨rfl, rfl⟩)); try dsimp only [thn, inBlk])
      | fail)
    simp [bodyQ, thn, inBlk, resA, resV, go_sem]
    exact k
  have h2' : ¬ (l.length : Int) < 2 := by omega
  obtain ⟨c, t, rfl⟩ : ∃ c t, l = c :: t := by
    rcases l with _ | ⟨c, t⟩
    · simp at h2
    · exact ⟨c, t, rfl⟩
  have x0 : indexP Tryd.prog 9 (tx (c :: t)) (.int .i64 0) = some (.int .u8 c.toNat) := str_index (j := 0) Tryd.underlying9 (by simp)
  by_cases h3 : c = 47
  rotate_left
  · have h3' : ((c.toNat : Int) != 47) = true := by have := neB (d := 47) h3; simp at this ⊢; omega
    have e : pathB (c :: t) = false := by simp [pathB, cut47, h3, h1]
    rw [e]
    generalize c :: t = l at *
    (repeat' first
      | refine AWP.seq ?_
      | refine AWP.block ?_
      | (refine AWP.skip ?_; try dsimp only [thn, inBlk])
      | (refine AWP.exit ?_; try simp only [thn, inBlk, if_true, reduceIte, Nat.reduceEqDiff])
      | (refine AWP.ret ?_; try dsimp only [thn, inBlk])
      | (refine AWP.condT ?_ ?_; (focus (simp [go_sem, h1', h2', x0, h3']; done)))
      | (refine AWP.condF ?_ ?_; (focus (simp [go_sem, h1', h2', x0, h3']; done)))
      | (apply AWP.rE; (focus (simp [go_sem, h1', h2', x0, h3']; exact ⟨rfl, rfl⟩)); try dsimp only [thn, inBlk])
      | fail)
    simp [bodyQ, thn, inBlk, resA, resV, go_sem]
    exact k
  have h3' : ((c.toNat : Int) != 47) = false := by rw [h3]; rfl
  have hpb : pathB (c :: t) = (decide ((splitB t).length ≤ 6) && (splitB t).all nm) := by
    rw [h3] at h1 ⊢
    have : (47 :: t == [47]) = false := by simpa using h1
    simp [pathB, cut47, this]
  have s1 : ∀ hh, sliceR Tryd.prog hh 9 (tx (c :: t)) (some (.int .i64 1)) none none = some (tx t) := fun hh => by
    have := str_slice (P := Tryd.prog) (h := hh) Tryd.underlying9 (l := c :: t) (lo := 1) (hi := (c :: t).length) (a := some (.int .i64 1)) (u := none) (by simp) (by simp) (.inr ⟨.i64, rfl⟩) (.inl ⟨rfl, rfl⟩)
    rw [this]; simp
  have htl : t.length ≤ 100000 := by simp at hm; omega
  rw [hpb]
  generalize c :: t = l at *
  (repeat' first
    | refine AWP.seq ?_
    | refine AWP.block ?_
    | (refine AWP.skip ?_; try dsimp only [thn, inBlk])
    | (refine AWP.exit ?_; try simp only [thn, inBlk, if_true, reduceIte, Nat.reduceEqDiff])
    | (refine AWP.ret ?_; try dsimp only [thn, inBlk])
    | (refine AWP.condT ?_ ?_; (focus (simp [go_sem, h1', h2', x0, h3']; done)))
    | (refine AWP.condF ?_ ?_; (focus (simp [go_sem, h1', h2', x0, h3']; done)))
    | (apply AWP.rE; (focus (simp [go_sem, h1', h2', x0, h3']; exact ⟨rfl, rfl⟩)); try dsimp only [thn, inBlk])
    | fail)
  refine AWP.callE (by simp [go_sem, s1]; exact ⟨rfl, rfl, rfl, rfl, rfl⟩) (by kernel_rfl) ?_
  refine (rsplit_calls (l := t) k htl).mono ?_
  rintro r h2 ⟨a, cap, rfl, k2⟩
  have hsl := splitB_length t
  have hct : t.count 47 ≤ t.length := List.count_le_length
  have hms : ∀ x ∈ splitB t, x.length ≤ 1000000 := fun x hx => by have := splitB_short t x hx; omega
  generalize hS : splitB t = S at *
  refine awpL_restE (by simp [go_sem]; exact ⟨rfl, rfl⟩) ?_; try dsimp only [thn, inBlk]
  (repeat' first
    | refine AWP.seq ?_
    | refine AWP.block ?_
    | (refine AWP.skip ?_; try dsimp only [thn, inBlk])
    | (refine AWP.exit ?_; try simp only [thn, inBlk, if_true, reduceIte, Nat.reduceEqDiff])
    | (refine AWP.ret ?_; try dsimp only [thn, inBlk])
    | (refine AWP.condT ?_ ?_; (focus (simp [go_sem]; done)))
    | (refine AWP.condF ?_ ?_; (focus (simp [go_sem]; done)))
    | (apply AWP.rE; (focus (simp [go_sem]; exact ⟨rfl, rfl⟩)); try dsimp only [thn, inBlk])
    | fail)
  refine AWP.loopR [3, 4] (fun m s h' => ∃ j : Nat, j ≤ S.length ∧ m = S.length - j ∧ s = ⟨33, [(3, .slice a S.length cap), (4, .int .i64 j)]⟩ ∧ (S.all nm = (S.drop j).all nm) ∧ h' = h2) ?_ ?_
  · exact ⟨_, 0, by omega, rfl, by simp [go_sem], rfl, rfl⟩
  rintro m s hX ⟨j, hj, rfl, rfl, hI, rfl⟩
  by_cases hjm : j < S.length
  rotate_left
  · have hjm' : ¬ (j : Int) < S.length := by omega
    have ha : S.all nm = true := by rw [hI, List.drop_eq_nil_iff.2 (by omega)]; rfl
    rw [ha, Bool.and_true]
    (repeat' first
      | refine AWP.seq ?_
      | refine AWP.block ?_
      | (refine AWP.skip ?_; try dsimp only [thn, inBlk])
      | (refine AWP.exit ?_; try simp only [thn, inBlk, if_true, reduceIte, Nat.reduceEqDiff])
      | (refine AWP.ret ?_; try dsimp only [thn, inBlk])
      | (refine AWP.condT ?_ ?_; (focus (simp [go_sem, hjm']; done)))
      | (refine AWP.condF ?_ ?_; (focus (simp [go_sem, hjm']; done)))
      | (apply AWP.rE; (focus (simp [go_sem, hjm']; exact ⟨rfl, rfl⟩)); try dsimp only [thn, inBlk])
      | fail)
    simp [bodyQ, thn, inBlk, resA, resV, go_sem]
    exact ⟨by omega, k2.tail⟩
  have hjm' : (j : Int) < S.length := by omega
  have hgj : (S.map Ab.T)[j]? = some (tx S[j]) := by simp [hjm, Ab.T]
  have hsj := hms _ (List.getElem_mem hjm)
  have hdr : S.drop j = S[j] :: S.drop (j + 1) := List.drop_eq_getElem_cons hjm
  obtain ⟨b1, o1, c1, _, _, _, _, p1, q1, r1⟩ := k2.os_sl.at1 (P := Tryd.prog) (t := 69) Tryd.underlying69 tsz9 hjm hgj (kd := .i64)
  generalize S[j] = x at *
  rw [hdr, List.all_cons] at hI
  have w1 : IntKind.i64.wrap ((j : Int) + 1) = ((j + 1 : Nat) : Int) := by rw [wI64 (by omega) (by omega)]; omega
  (repeat' first
    | refine AWP.seq ?_
    | refine AWP.block ?_
    | (refine AWP.skip ?_; try dsimp only [thn, inBlk])
    | (refine AWP.exit ?_; try simp only [thn, inBlk, if_true, reduceIte, Nat.reduceEqDiff])
    | (refine AWP.ret ?_; try dsimp only [thn, inBlk])
    | (refine AWP.condT ?_ ?_; (focus (simp [go_sem, hjm']; done)))
    | (refine AWP.condF ?_ ?_; (focus (simp [go_sem, hjm']; done)))
    | (apply AWP.rE; (focus (simp [go_sem, hjm']; exact ⟨rfl, rfl⟩)); try dsimp only [thn, inBlk])
    | fail)
  refine AWP.callE (by simp [go_sem, p1, q1, r1]; exact ⟨rfl, rfl, rfl, rfl, rfl⟩) (by kernel_rfl) ?_
  refine (rname_calls (l := x) hsj).mono ?_
  rintro r h3 ⟨rfl, rfl⟩
  cases hx : nm x
  · rw [hx, Bool.false_and] at hI
    rw [hI, Bool.and_false]
    refine awpL_restE (by simp [go_sem]; exact ⟨rfl, rfl⟩) ?_; try dsimp only [thn, inBlk]
    (repeat' first
      | refine AWP.seq ?_
      | refine AWP.block ?_
      | (refine AWP.skip ?_; try dsimp only [thn, inBlk])
      | (refine AWP.exit ?_; try simp only [thn, inBlk, if_true, reduceIte, Nat.reduceEqDiff])
      | (refine AWP.ret ?_; try dsimp only [thn, inBlk])
      | (refine AWP.condT ?_ ?_; (focus (simp [go_sem]; done)))
      | (refine AWP.condF ?_ ?_; (focus (simp [go_sem]; done)))
      | (apply AWP.rE; (focus (simp [go_sem]; exact ⟨rfl, rfl⟩)); try dsimp only [thn, inBlk])
      | fail)
    simp [bodyQ, thn, inBlk, resA, resV, go_sem]
    exact k2.tail
  · rw [hx, Bool.true_and] at hI
    refine awpL_restE (by simp [go_sem]; exact ⟨rfl, rfl⟩) ?_; try dsimp only [thn, inBlk]
    (repeat' first
      | refine AWP.seq ?_
      | refine AWP.block ?_
      | (refine AWP.skip ?_; try dsimp only [thn, inBlk])
      | (refine AWP.exit ?_; try simp only [thn, inBlk, if_true, reduceIte, Nat.reduceEqDiff])
      | (refine AWP.ret ?_; try dsimp only [thn, inBlk])
      | (refine AWP.condT ?_ ?_; (focus (simp [go_sem, w1]; done)))
      | (refine AWP.condF ?_ ?_; (focus (simp [go_sem, w1]; done)))
      | (apply AWP.rE; (focus (simp [go_sem, w1]; exact ⟨rfl, rfl⟩)); try dsimp only [thn, inBlk])
      | fail)
    exact ⟨S.length - (j + 1), by omega, j + 1, by omega, rfl, by simp [go_sem], hI, rfl⟩
end
end L19
