import Derived.Test.YtfnlbcifdopnhaaDoorL11p
open Go Ab Go.Proofs
namespace L11
set_option autoImplicit false
set_option linter.unusedSimpArgs false
set_option linter.unusedVariables false

theorem nodash {p q : List UInt8} (h : (47 : UInt8) ∉ q) : splitB q = [q] := splitB_one q (List.count_eq_zero.2 h)
set_option maxHeartbeats 16000000 in
theorem rparse_calls {O : Old} {h : AHeap} {R : List Chunk} {l : List UInt8} (k : Own O h R) (hm : l.length ≤ 900000) :
    ACalls Tryd.prog 39 #[tx l] h fun r h' => (∃ a n cap q, r = .tuple #[.agg #[.slice a n cap, tx q], .bool (nameB l)]) ∧ Own O h' R := by
  refine ACalls.of_awp (args := [tx l]) (n := 62) Tryd.func39 rfl rfl (by show 1 ≤ 62; omega) ?_
  have k1 := k.push (.row [.slice none 0 0, .string ⟨#[]⟩] 57 2 true false)
  have c1 := k1.obj
  by_cases hc : (64 : UInt8) ∈ l
  rotate_left
  · have hnb : nameB l = false := by
      simp only [nameB, cutA_none l hc, nameP]
      simp [partB]
    rw [hnb]
    (repeat' first
      | refine AWP.seq ?_
      | refine AWP.block ?_
      | (refine AWP.skip ?_; try dsimp only [thn, inBlk])
      | (refine AWP.exit ?_; try simp only [thn, inBlk, if_true, reduceIte, Nat.reduceEqDiff])
      | (refine AWP.ret ?_; try dsimp only [thn, inBlk])
      | (refine AWP.condT ?_ ?_; (focus (simp [go_sem]; done)))
      | (refine AWP.condF ?_ ?_; (focus (simp [go_sem]; done)))
      | (apply AWP.rE; (focus (simp [go_sem]; exact ⟨rfl, rfl⟩)); try dsimp only [thn, inBlk])
      | (apply AWP.dE hmix [.n 0 [6], .n 1 [46], .n 2 [0], .n 3 [7], .n 4 [8], .n 5 [48, 49, 50], .n 6 [51], .w 7 [47, 52] [], .n 8 [6], .w 9 [54, 53] []]; (focus kernel_rfl); (focus (simp [go_sem]; exact ⟨rfl, rfl⟩)); try dsimp only [thn, inBlk])
      | fail)
    refine AWP.loopR [0, 2, 4, 5] (fun m s h' => ∃ j : Nat, j ≤ l.length ∧ m = l.length - j ∧ s = ⟨62, [(0, tx l), (2, ptr h.next), (4, .int .i64 (-1)), (5, .int .i64 j)]⟩ ∧ h' = h.push (.row [.slice none 0 0, .string ⟨#[]⟩] 57 2 true false)) ?_ ?_
    · exact ⟨_, 0, by omega, rfl, rfl, rfl⟩
    rintro m s hB ⟨j, hj, rfl, rfl, rfl⟩
    by_cases hjm : j < l.length
    · have hjm' : (j : Int) < l.length := by omega
      have x1 : indexP Tryd.prog 9 (tx l) (.int .i64 (j : Int)) = some (.int .u8 l[j].toNat) := str_index Tryd.underlying9 (by omega)
      have hne : l[j] ≠ 64 := fun e => hc (by rw [← e]; exact List.getElem_mem hjm)
      generalize l[j] = c at x1 hne
      have hne' : ((c.toNat : Int) == 64) = false := by have := neB (d := 64) hne; simp at this ⊢; omega
      have w1 : IntKind.i64.wrap ((j : Int) + 1) = ((j + 1 : Nat) : Int) := by rw [wI64 (by omega) (by omega)]; omega
      (repeat' first
        | refine AWP.seq ?_
        | refine AWP.block ?_
        | (refine AWP.skip ?_; try dsimp only [thn, inBlk])
        | (refine AWP.exit ?_; try simp only [thn, inBlk, if_true, reduceIte, Nat.reduceEqDiff])
        | (refine AWP.ret ?_; try dsimp only [thn, inBlk])
        | (refine AWP.condT ?_ ?_; (focus (simp [go_sem, hjm', x1, hne', w1]; done)))
        | (refine AWP.condF ?_ ?_; (focus (simp [go_sem, hjm', x1, hne', w1]; done)))
        | (apply AWP.rE; (focus (simp [go_sem, hjm', x1, hne', w1]; exact ⟨rfl, rfl⟩)); try dsimp only [thn, inBlk])
        | (apply AWP.dE hmix [.n 0 [6], .n 1 [46], .n 2 [0], .n 3 [7], .n 4 [8], .n 5 [48, 49, 50], .n 6 [51], .w 7 [47, 52] [], .n 8 [6], .w 9 [54, 53] []]; (focus kernel_rfl); (focus (simp [go_sem, hjm', x1, hne', w1]; exact ⟨rfl, rfl⟩)); try dsimp only [thn, inBlk])
        | fail)
      exact ⟨l.length - (j + 1), by omega, j + 1, by omega, rfl, by simp [go_sem], rfl⟩
    · have hjm' : ¬ (j : Int) < l.length := by omega
      (repeat' first
        | refine AWP.seq ?_
        | refine AWP.block ?_
        | (refine AWP.skip ?_; try dsimp only [thn, inBlk])
        | (refine AWP.exit ?_; try simp only [thn, inBlk, if_true, reduceIte, Nat.reduceEqDiff])
        | (refine AWP.ret ?_; try dsimp only [thn, inBlk])
        | (refine AWP.condT ?_ ?_; (focus (simp [go_sem, hjm', c1]; done)))
        | (refine AWP.condF ?_ ?_; (focus (simp [go_sem, hjm', c1]; done)))
        | (apply AWP.rE; (focus (simp [go_sem, hjm', c1]; exact ⟨rfl, rfl⟩)); try dsimp only [thn, inBlk])
        | (apply AWP.dE hmix [.n 0 [6], .n 1 [46], .n 2 [0], .n 3 [7], .n 4 [8], .n 5 [48, 49, 50], .n 6 [51], .w 7 [47, 52] [], .n 8 [6], .w 9 [54, 53] []]; (focus kernel_rfl); (focus (simp [go_sem, hjm', c1]; exact ⟨rfl, rfl⟩)); try dsimp only [thn, inBlk])
        | fail)
      simp [bodyQ, thn, inBlk, resA, resV, go_sem, c1]
      exact k1.tail
  obtain ⟨pre, tail, hpt, hnp, hix⟩ := indexByte_split (bs := l) (c := 64) (List.count_pos_iff.2 hc)
  have hcut := cutA_cut pre tail hnp
  rw [← hpt] at hcut
  have hnb : nameB l = nameP (splitB pre) tail := by simp only [nameB, hcut]
  obtain ⟨q, hq⟩ : ∃ q, q = pre.length := ⟨_, rfl⟩
  have hll : l.length = q + 1 + tail.length := by rw [hpt, List.length_append, List.length_cons, hq]; omega
  have hlt : ∀ j (hj : j < l.length), j < q → l[j] ≠ 64 ∧ pre[j]? = some l[j] := fun j hj hjq => by
    have e : l[j]? = pre[j]? := by rw [hpt, List.getElem?_append_left (by omega)]
    rw [List.getElem?_eq_getElem hj] at e
    exact ⟨fun e2 => hnp (by rw [e2] at e; exact List.mem_of_getElem? e.symm), e.symm⟩
  have hqq : ∀ (hj : q < l.length), l[q] = 64 := fun hj => by
    have e : l[q]? = some 64 := by rw [hpt, List.getElem?_append_right (by omega), hq]; simp
    rw [List.getElem?_eq_getElem hj] at e
    exact Option.some.inj e
  (repeat' first
    | refine AWP.seq ?_
    | refine AWP.block ?_
    | (refine AWP.skip ?_; try dsimp only [thn, inBlk])
    | (refine AWP.exit ?_; try simp only [thn, inBlk, if_true, reduceIte, Nat.reduceEqDiff])
    | (refine AWP.ret ?_; try dsimp only [thn, inBlk])
    | (refine AWP.condT ?_ ?_; (focus (simp [go_sem]; done)))
    | (refine AWP.condF ?_ ?_; (focus (simp [go_sem]; done)))
    | (apply AWP.rE; (focus (simp [go_sem]; exact ⟨rfl, rfl⟩)); try dsimp only [thn, inBlk])
    | (apply AWP.dE hmix [.n 0 [6], .n 1 [46], .n 2 [0], .n 3 [7], .n 4 [8], .n 5 [48, 49, 50], .n 6 [51], .w 7 [47, 52] [], .n 8 [6], .w 9 [54, 53] []]; (focus kernel_rfl); (focus (simp [go_sem]; exact ⟨rfl, rfl⟩)); try dsimp only [thn, inBlk])
    | fail)
  refine AWP.loopR [0, 2, 4, 5] (fun m s h' => ∃ j : Nat, j ≤ l.length ∧ m = l.length - j ∧ s = ⟨62, [(0, tx l), (2, ptr h.next), (4, .int .i64 (if q < j then (q : Int) else -1)), (5, .int .i64 j)]⟩ ∧ h' = h.push (.row [.slice none 0 0, .string ⟨#[]⟩] 57 2 true false)) ?_ ?_
  · exact ⟨_, 0, by omega, rfl, by rw [if_neg (by omega)]; rfl, rfl⟩
  rintro m s hB ⟨j, hj, rfl, rfl, rfl⟩
  by_cases hjm : j < l.length
  · have hjm' : (j : Int) < l.length := by omega
    have x1 : indexP Tryd.prog 9 (tx l) (.int .i64 (j : Int)) = some (.int .u8 l[j].toNat) := str_index Tryd.underlying9 (by omega)
    have w1 : IntKind.i64.wrap ((j : Int) + 1) = ((j + 1 : Nat) : Int) := by rw [wI64 (by omega) (by omega)]; omega
    have hl1 := hlt j hjm
    have hl2 : j = q → l[j] = 64 := fun e => by subst e; exact hqq hjm
    generalize l[j] = c at x1 hl1 hl2
    by_cases hjq : j < q
    · have hne' : ((c.toNat : Int) == 64) = false := by have := neB (d := 64) (hl1 hjq).1; simp at this ⊢; omega
      rw [if_neg (by omega)]
      (repeat' first
        | refine AWP.seq ?_
        | refine AWP.block ?_
        | (refine AWP.skip ?_; try dsimp only [thn, inBlk])
        | (refine AWP.exit ?_; try simp only [thn, inBlk, if_true, reduceIte, Nat.reduceEqDiff])
        | (refine AWP.ret ?_; try dsimp only [thn, inBlk])
        | (refine AWP.condT ?_ ?_; (focus (simp [go_sem, hjm', x1, hne', w1]; done)))
        | (refine AWP.condF ?_ ?_; (focus (simp [go_sem, hjm', x1, hne', w1]; done)))
        | (apply AWP.rE; (focus (simp [go_sem, hjm', x1, hne', w1]; exact ⟨rfl, rfl⟩)); try dsimp only [thn, inBlk])
        | (apply AWP.dE hmix [.n 0 [6], .n 1 [46], .n 2 [0], .n 3 [7], .n 4 [8], .n 5 [48, 49, 50], .n 6 [51], .w 7 [47, 52] [], .n 8 [6], .w 9 [54, 53] []]; (focus kernel_rfl); (focus (simp [go_sem, hjm', x1, hne', w1]; exact ⟨rfl, rfl⟩)); try dsimp only [thn, inBlk])
        | fail)
      exact ⟨l.length - (j + 1), by omega, j + 1, by omega, rfl, by rw [if_neg (by omega)]; simp [go_sem], rfl⟩
    by_cases hje : j = q
    · have hc64 := hl2 hje
      subst hc64
      rw [if_neg (by omega)]
      (repeat' first
        | refine AWP.seq ?_
        | refine AWP.block ?_
        | (refine AWP.skip ?_; try dsimp only [thn, inBlk])
        | (refine AWP.exit ?_; try simp only [thn, inBlk, if_true, reduceIte, Nat.reduceEqDiff])
        | (refine AWP.ret ?_; try dsimp only [thn, inBlk])
        | (refine AWP.condT ?_ ?_; (focus (simp [go_sem, hjm', x1, w1]; done)))
        | (refine AWP.condF ?_ ?_; (focus (simp [go_sem, hjm', x1, w1]; done)))
        | (apply AWP.rE; (focus (simp [go_sem, hjm', x1, w1]; exact ⟨rfl, rfl⟩)); try dsimp only [thn, inBlk])
        | (apply AWP.dE hmix [.n 0 [6], .n 1 [46], .n 2 [0], .n 3 [7], .n 4 [8], .n 5 [48, 49, 50], .n 6 [51], .w 7 [47, 52] [], .n 8 [6], .w 9 [54, 53] []]; (focus kernel_rfl); (focus (simp [go_sem, hjm', x1, w1]; exact ⟨rfl, rfl⟩)); try dsimp only [thn, inBlk])
        | fail)
      exact ⟨l.length - (j + 1), by omega, j + 1, by omega, rfl, by rw [if_pos (by omega)]; simp [go_sem, hje], rfl⟩
    · have hq0 : ¬ (q : Int) < 0 := by omega
      rw [if_pos (by omega)]
      by_cases h64 : c = 64
      · subst h64
        (repeat' first
          | refine AWP.seq ?_
          | refine AWP.block ?_
          | (refine AWP.skip ?_; try dsimp only [thn, inBlk])
          | (refine AWP.exit ?_; try simp only [thn, inBlk, if_true, reduceIte, Nat.reduceEqDiff])
          | (refine AWP.ret ?_; try dsimp only [thn, inBlk])
          | (refine AWP.condT ?_ ?_; (focus (simp [go_sem, hjm', x1, w1, hq0]; done)))
          | (refine AWP.condF ?_ ?_; (focus (simp [go_sem, hjm', x1, w1, hq0]; done)))
          | (apply AWP.rE; (focus (simp [go_sem, hjm', x1, w1, hq0]; exact ⟨rfl, rfl⟩)); try dsimp only [thn, inBlk])
          | (apply AWP.dE hmix [.n 0 [6], .n 1 [46], .n 2 [0], .n 3 [7], .n 4 [8], .n 5 [48, 49, 50], .n 6 [51], .w 7 [47, 52] [], .n 8 [6], .w 9 [54, 53] []]; (focus kernel_rfl); (focus (simp [go_sem, hjm', x1, w1, hq0]; exact ⟨rfl, rfl⟩)); try dsimp only [thn, inBlk])
          | fail)
        exact ⟨l.length - (j + 1), by omega, j + 1, by omega, rfl, by rw [if_pos (by omega)]; simp [go_sem], rfl⟩
      · have hne' : ((c.toNat : Int) == 64) = false := by have := neB (d := 64) h64; simp at this ⊢; omega
        (repeat' first
          | refine AWP.seq ?_
          | refine AWP.block ?_
          | (refine AWP.skip ?_; try dsimp only [thn, inBlk])
          | (refine AWP.exit ?_; try simp only [thn, inBlk, if_true, reduceIte, Nat.reduceEqDiff])
          | (refine AWP.ret ?_; try dsimp only [thn, inBlk])
          | (refine AWP.condT ?_ ?_; (focus (simp [go_sem, hjm', x1, hne', w1]; done)))
          | (refine AWP.condF ?_ ?_; (focus (simp [go_sem, hjm', x1, hne', w1]; done)))
          | (apply AWP.rE; (focus (simp [go_sem, hjm', x1, hne', w1]; exact ⟨rfl, rfl⟩)); try dsimp only [thn, inBlk])
          | (apply AWP.dE hmix [.n 0 [6], .n 1 [46], .n 2 [0], .n 3 [7], .n 4 [8], .n 5 [48, 49, 50], .n 6 [51], .w 7 [47, 52] [], .n 8 [6], .w 9 [54, 53] []]; (focus kernel_rfl); (focus (simp [go_sem, hjm', x1, hne', w1]; exact ⟨rfl, rfl⟩)); try dsimp only [thn, inBlk])
          | fail)
        exact ⟨l.length - (j + 1), by omega, j + 1, by omega, rfl, by rw [if_pos (by omega)]; simp [go_sem], rfl⟩
  have hjm' : ¬ (j : Int) < l.length := by omega
  rw [if_pos (by omega)]
  have hq0 : ¬ (q : Int) < 0 := by omega
  obtain ⟨q1, hq1⟩ : ∃ q1, q1 = q + 1 := ⟨_, rfl⟩
  have wq : IntKind.i64.wrap ((q : Int) + 1) = (q1 : Int) := by rw [wI64 (by omega) (by omega)]; omega
  have s2 : ∀ hh, sliceR Tryd.prog hh 9 (tx l) (some (.int .i64 (q1 : Int))) none none = some (tx tail) := fun hh => by
    have := str_slice (P := Tryd.prog) (h := hh) Tryd.underlying9 (l := l) (lo := q1) (hi := l.length) (a := some (.int .i64 (q1 : Int))) (u := none) (by omega) (Nat.le_refl _) (.inr ⟨.i64, rfl⟩) (.inl ⟨rfl, rfl⟩)
    have e : l.drop q1 = tail := by rw [hpt, hq1, hq]; simp
    rw [List.take_length, e] at this
    exact this
  have k2 : Own O (((h.push (.row [.slice none 0 0, .string ⟨#[]⟩] 57 2 true false)).push (.row [.slice none 0 0, .string ⟨#[]⟩] 57 2 true false)).set (h.next + 1) (.row [.slice none 0 0, tx tail] 57 2 true false)) (cell (h.next + 1) (.row [.slice none 0 0, tx tail] 57 2 true false) :: cell h.next (.row [.slice none 0 0, .string ⟨#[]⟩] 57 2 true false) :: R) := (k1.push _).set _
  have k3 := k2.nil 9 1
  (repeat' first
    | refine AWP.seq ?_
    | refine AWP.block ?_
    | (refine AWP.skip ?_; try dsimp only [thn, inBlk])
    | (refine AWP.exit ?_; try simp only [thn, inBlk, if_true, reduceIte, Nat.reduceEqDiff])
    | (refine AWP.ret ?_; try dsimp only [thn, inBlk])
    | (refine AWP.condT ?_ ?_; (focus (simp [go_sem, hjm', hq0, wq, s2]; done)))
    | (refine AWP.condF ?_ ?_; (focus (simp [go_sem, hjm', hq0, wq, s2]; done)))
    | (apply AWP.rE; (focus (simp [go_sem, hjm', hq0, wq, s2]; exact ⟨rfl, rfl⟩)); try dsimp only [thn, inBlk])
    | (apply AWP.dE hmix [.n 0 [6], .n 1 [46], .n 2 [0], .n 3 [7], .n 4 [8], .n 5 [48, 49, 50], .n 6 [51], .w 7 [47, 52] [], .n 8 [6], .w 9 [54, 53] []]; (focus kernel_rfl); (focus (simp [go_sem, hjm', hq0, wq, s2]; exact ⟨rfl, rfl⟩)); try dsimp only [thn, inBlk])
    | fail)
  generalize ((h.push (.row [.slice none 0 0, .string ⟨#[]⟩] 57 2 true false)).push (.row [.slice none 0 0, .string ⟨#[]⟩] 57 2 true false)).set (h.next + 1) (.row [.slice none 0 0, tx tail] 57 2 true false) = H2 at k3 ⊢
  clear k2
  generalize h.next + 1 = p6 at k3 ⊢
  refine AWP.loopR [0, 2, 4, 6, 7, 8] (fun m s h' => ∃ (i f : Nat) (done : List (List UInt8)) (a : Option Addr) (cap : Nat), i ≤ q + 1 ∧ m = q + 1 - i ∧ s = ⟨62, [(0, tx l), (2, ptr h.next), (4, .int .i64 q), (6, ptr p6), (7, .int .i64 f), (8, .int .i64 i)]⟩ ∧
    (if i ≤ q then f ≤ i ∧ splitB pre = done ++ splitB (pre.drop f) ∧ (∀ x, f ≤ x → x < i → pre[x]? ≠ some 47) ∧ done.length ≤ i else done = splitB pre) ∧
    Own O h' (txs (.slice a done.length cap) done :: cell p6 (.row [.slice a done.length cap, tx tail] 57 2 true false) :: cell h.next (.row [.slice none 0 0, .string ⟨#[]⟩] 57 2 true false) :: R)) ?_ ?_
  · refine ⟨_, 0, 0, [], none, 0, by omega, rfl, by simp [go_sem], ?_, k3⟩
    rw [if_pos (by omega)]
    exact ⟨Nat.le_refl _, rfl, fun x h1 h2 => by omega, Nat.le_refl _⟩
  rintro m s hC ⟨i, f, done, a, cap, hi, rfl, rfl, hI, kC⟩
  by_cases him : i ≤ q
  rotate_left
  · have him' : ¬ (i : Int) ≤ q := by omega
    rw [if_neg him] at hI
    subst hI
    have cC := kC.b1.obj
    have hsl := splitB_length pre
    have hcc : pre.count 47 ≤ pre.length := List.count_le_length
    have hss := splitB_short pre
    generalize splitB pre = ls at *
    (repeat' first
      | refine AWP.seq ?_
      | refine AWP.block ?_
      | (refine AWP.skip ?_; try dsimp only [thn, inBlk])
      | (refine AWP.exit ?_; try simp only [thn, inBlk, if_true, reduceIte, Nat.reduceEqDiff])
      | (refine AWP.ret ?_; try dsimp only [thn, inBlk])
      | (refine AWP.condT ?_ ?_; (focus (simp [go_sem, him']; done)))
      | (refine AWP.condF ?_ ?_; (focus (simp [go_sem, him']; done)))
      | (apply AWP.rE; (focus (simp [go_sem, him']; exact ⟨rfl, rfl⟩)); try dsimp only [thn, inBlk])
      | (apply AWP.dE hmix [.n 0 [6], .n 1 [46], .n 2 [0], .n 3 [7], .n 4 [8], .n 5 [48, 49, 50], .n 6 [51], .w 7 [47, 52] [], .n 8 [6], .w 9 [54, 53] []]; (focus kernel_rfl); (focus (simp [go_sem, him']; exact ⟨rfl, rfl⟩)); try dsimp only [thn, inBlk])
      | fail)
    refine AWP.callE (by simp [go_sem, cC]; exact ⟨rfl, rfl, rfl, rfl, rfl⟩) (by kernel_rfl) ?_
    refine (rright_calls (r := tail) kC (by omega) (by omega) (fun x hx => by have := hss x hx; omega) (by omega)).mono ?_
    rintro r h4 ⟨rfl, k4⟩
    have c4 := k4.b1.obj
    have c5 := k4.b2.obj
    rw [hnb]
    cases hn : nameP ls tail
    · refine awpL_restE (by simp [go_sem]; exact ⟨rfl, rfl⟩) ?_; try dsimp only [thn, inBlk]
      (repeat' first
        | refine AWP.seq ?_
        | refine AWP.block ?_
        | (refine AWP.skip ?_; try dsimp only [thn, inBlk])
        | (refine AWP.exit ?_; try simp only [thn, inBlk, if_true, reduceIte, Nat.reduceEqDiff])
        | (refine AWP.ret ?_; try dsimp only [thn, inBlk])
        | (refine AWP.condT ?_ ?_; (focus (simp [go_sem, c4, c5]; done)))
        | (refine AWP.condF ?_ ?_; (focus (simp [go_sem, c4, c5]; done)))
        | (apply AWP.rE; (focus (simp [go_sem, c4, c5]; exact ⟨rfl, rfl⟩)); try dsimp only [thn, inBlk])
        | (apply AWP.dE hmix [.n 0 [6], .n 1 [46], .n 2 [0], .n 3 [7], .n 4 [8], .n 5 [48, 49, 50], .n 6 [51], .w 7 [47, 52] [], .n 8 [6], .w 9 [54, 53] []]; (focus kernel_rfl); (focus (simp [go_sem, c4, c5]; exact ⟨rfl, rfl⟩)); try dsimp only [thn, inBlk])
        | fail)
      simp [bodyQ, thn, inBlk, resA, resV, go_sem]
      exact (k4.b2.set _).tail.tail.tail
    · refine awpL_restE (by simp [go_sem]; exact ⟨rfl, rfl⟩) ?_; try dsimp only [thn, inBlk]
      (repeat' first
        | refine AWP.seq ?_
        | refine AWP.block ?_
        | (refine AWP.skip ?_; try dsimp only [thn, inBlk])
        | (refine AWP.exit ?_; try simp only [thn, inBlk, if_true, reduceIte, Nat.reduceEqDiff])
        | (refine AWP.ret ?_; try dsimp only [thn, inBlk])
        | (refine AWP.condT ?_ ?_; (focus (simp [go_sem, c4, c5]; done)))
        | (refine AWP.condF ?_ ?_; (focus (simp [go_sem, c4, c5]; done)))
        | (apply AWP.rE; (focus (simp [go_sem, c4, c5]; exact ⟨rfl, rfl⟩)); try dsimp only [thn, inBlk])
        | (apply AWP.dE hmix [.n 0 [6], .n 1 [46], .n 2 [0], .n 3 [7], .n 4 [8], .n 5 [48, 49, 50], .n 6 [51], .w 7 [47, 52] [], .n 8 [6], .w 9 [54, 53] []]; (focus kernel_rfl); (focus (simp [go_sem, c4, c5]; exact ⟨rfl, rfl⟩)); try dsimp only [thn, inBlk])
        | fail)
      simp [bodyQ, thn, inBlk, resA, resV, go_sem]
      exact (k4.b2.set _).tail.tail.tail
  have him' : (i : Int) ≤ q := by omega
  rw [if_pos him] at hI
  obtain ⟨hfi, hsp, hno, hdl⟩ := hI
  have hil : i < l.length := by omega
  have x1 : indexP Tryd.prog 9 (tx l) (.int .i64 (i : Int)) = some (.int .u8 l[i].toNat) := str_index Tryd.underlying9 (by omega)
  have w1 : IntKind.i64.wrap ((i : Int) + 1) = ((i + 1 : Nat) : Int) := by rw [wI64 (by omega) (by omega)]; omega
  have hl1 := hlt i hil
  have hl2 : i = q → l[i] = 64 := fun e => by subst e; exact hqq hil
  generalize l[i] = c at x1 hl1 hl2
  have htk : l.take i = pre.take i := by rw [hpt, List.take_append_of_le_length (by omega)]
  have hnx : (47 : UInt8) ∉ (pre.take i).drop f := fun h => by
    obtain ⟨x, hx⟩ := List.mem_iff_getElem?.1 h
    rw [List.getElem?_drop] at hx
    have hxi : f + x < i := by have := (List.getElem?_eq_some_iff.1 hx).1; simp at this; omega
    rw [List.getElem?_take_of_lt hxi] at hx
    exact hno (f + x) (by omega) hxi hx
  by_cases hA : i < q ∧ c ≠ 47
  · obtain ⟨hiq, hc47⟩ := hA
    have hc' : ((c.toNat : Int) == 47) = false := neI hc47
    have hiq' : ((i : Int) == (q : Int)) = false := by simp; omega
    (repeat' first
      | refine AWP.seq ?_
      | refine AWP.block ?_
      | (refine AWP.skip ?_; try dsimp only [thn, inBlk])
      | (refine AWP.exit ?_; try simp only [thn, inBlk, if_true, reduceIte, Nat.reduceEqDiff])
      | (refine AWP.ret ?_; try dsimp only [thn, inBlk])
      | (refine AWP.condT ?_ ?_; (focus (simp [go_sem, him', x1, hc', hiq', w1]; done)))
      | (refine AWP.condF ?_ ?_; (focus (simp [go_sem, him', x1, hc', hiq', w1]; done)))
      | (apply AWP.rE; (focus (simp [go_sem, him', x1, hc', hiq', w1]; exact ⟨rfl, rfl⟩)); try dsimp only [thn, inBlk])
      | (apply AWP.dE hmix [.n 0 [6], .n 1 [46], .n 2 [0], .n 3 [7], .n 4 [8], .n 5 [48, 49, 50], .n 6 [51], .w 7 [47, 52] [], .n 8 [6], .w 9 [54, 53] []]; (focus kernel_rfl); (focus (simp [go_sem, him', x1, hc', hiq', w1]; exact ⟨rfl, rfl⟩)); try dsimp only [thn, inBlk])
      | fail)
    refine ⟨q + 1 - (i + 1), by omega, i + 1, f, done, a, cap, by omega, rfl, by simp [go_sem], ?_, kC⟩
    rw [if_pos (by omega)]
    refine ⟨by omega, hsp, fun x h1 h2 => ?_, by omega⟩
    by_cases e : x = i
    · subst e
      rw [(hl1 hiq).2]
      exact fun e => hc47 (Option.some.inj e)
    · exact hno x h1 (by omega)
  have cC := kC.b1.obj
  have s3 : ∀ hh, sliceR Tryd.prog hh 9 (tx l) (some (.int .i64 (f : Int))) (some (.int .i64 (i : Int))) none = some (tx ((pre.take i).drop f)) := fun hh => by
    have := str_slice (P := Tryd.prog) (h := hh) Tryd.underlying9 (l := l) (lo := f) (hi := i) (a := some (.int .i64 (f : Int))) (u := some (.int .i64 (i : Int))) (by omega) (by omega) (.inr ⟨.i64, rfl⟩) (.inr ⟨.i64, rfl⟩)
    rw [htk] at this
    exact this
  obtain ⟨a6, c6, h6, e6, k6⟩ := Own.app1 (P := Tryd.prog) (t := 41) (xt := 41) (x := tx ((pre.take i).drop f)) Tryd.underlying41 tsz9 tby9 tz9 nI41 (by omega) rfl kC rfl rfl (by omega)
  have cD := k6.b1.obj
  have k7 := k6.b1.set (.row [.slice a6 (done.length + 1) c6, tx tail] 57 2 true false)
  have e7 : (done ++ [(pre.take i).drop f]).length = done.length + 1 := by simp
  have k8 : Own O (h6.set p6 (.row [.slice a6 (done.length + 1) c6, tx tail] 57 2 true false)) (txs (.slice a6 (done ++ [(pre.take i).drop f]).length c6) (done ++ [(pre.take i).drop f]) :: cell p6 (.row [.slice a6 (done ++ [(pre.take i).drop f]).length c6, tx tail] 57 2 true false) :: cell h.next (.row [.slice none 0 0, .string ⟨#[]⟩] 57 2 true false) :: R) := by
    rw [txs, e7, List.map_append]; exact k7.b1
  by_cases hiq : i < q
  · have hc47 : c = 47 := by
      by_cases e : c = 47
      · exact e
      · exact absurd ⟨hiq, e⟩ hA
    subst hc47
    (repeat' first
      | refine AWP.seq ?_
      | refine AWP.block ?_
      | (refine AWP.skip ?_; try dsimp only [thn, inBlk])
      | (refine AWP.exit ?_; try simp only [thn, inBlk, if_true, reduceIte, Nat.reduceEqDiff])
      | (refine AWP.ret ?_; try dsimp only [thn, inBlk])
      | (refine AWP.condT ?_ ?_; (focus (simp [go_sem, him', x1, w1, cC, s3, e6, cD]; done)))
      | (refine AWP.condF ?_ ?_; (focus (simp [go_sem, him', x1, w1, cC, s3, e6, cD]; done)))
      | (apply AWP.rE; (focus (simp [go_sem, him', x1, w1, cC, s3, e6, cD]; exact ⟨rfl, rfl⟩)); try dsimp only [thn, inBlk])
      | (apply AWP.dE hmix [.n 0 [6], .n 1 [46], .n 2 [0], .n 3 [7], .n 4 [8], .n 5 [48, 49, 50], .n 6 [51], .w 7 [47, 52] [], .n 8 [6], .w 9 [54, 53] []]; (focus kernel_rfl); (focus (simp [go_sem, him', x1, w1, cC, s3, e6, cD]; exact ⟨rfl, rfl⟩)); try dsimp only [thn, inBlk])
      | fail)
    refine ⟨q + 1 - (i + 1), by omega, i + 1, i + 1, _, a6, c6, by omega, rfl, by simp [go_sem], ?_, k8⟩
    rw [if_pos (by omega)]
    refine ⟨Nat.le_refl _, ?_, fun x h1 h2 => by omega, by simp; omega⟩
    have hd : pre.drop f = (pre.take i).drop f ++ 47 :: pre.drop (i + 1) := by
      have h1 : pre.drop f = (pre.take i).drop f ++ pre.drop i := by
        conv => lhs; rw [← List.take_append_drop i pre]
        rw [List.drop_append_of_le_length (by simp; omega)]
      have h2 : pre.drop i = 47 :: pre.drop (i + 1) := by
        have hp := (hl1 hiq).2
        obtain ⟨h3, h4⟩ := List.getElem?_eq_some_iff.1 hp
        rw [List.drop_eq_getElem_cons h3, h4]
      rw [h1, h2]
    rw [hsp, hd, splitB_cut _ _ hnx]; simp
  · have hie : i = q := by omega
    have hc64 := hl2 hie
    subst hc64
    have hiq' : ((i : Int) == (q : Int)) = true := by simp; omega
    (repeat' first
      | refine AWP.seq ?_
      | refine AWP.block ?_
      | (refine AWP.skip ?_; try dsimp only [thn, inBlk])
      | (refine AWP.exit ?_; try simp only [thn, inBlk, if_true, reduceIte, Nat.reduceEqDiff])
      | (refine AWP.ret ?_; try dsimp only [thn, inBlk])
      | (refine AWP.condT ?_ ?_; (focus (simp [go_sem, him', x1, hiq', w1, cC, s3, e6, cD]; done)))
      | (refine AWP.condF ?_ ?_; (focus (simp [go_sem, him', x1, hiq', w1, cC, s3, e6, cD]; done)))
      | (apply AWP.rE; (focus (simp [go_sem, him', x1, hiq', w1, cC, s3, e6, cD]; exact ⟨rfl, rfl⟩)); try dsimp only [thn, inBlk])
      | (apply AWP.dE hmix [.n 0 [6], .n 1 [46], .n 2 [0], .n 3 [7], .n 4 [8], .n 5 [48, 49, 50], .n 6 [51], .w 7 [47, 52] [], .n 8 [6], .w 9 [54, 53] []]; (focus kernel_rfl); (focus (simp [go_sem, him', x1, hiq', w1, cC, s3, e6, cD]; exact ⟨rfl, rfl⟩)); try dsimp only [thn, inBlk])
      | fail)
    refine ⟨q + 1 - (i + 1), by omega, i + 1, i + 1, _, a6, c6, by omega, rfl, by simp [go_sem], ?_, k8⟩
    rw [if_neg (by omega)]
    have hd : (pre.take i).drop f = pre.drop f := by rw [List.take_of_length_le (by omega)]
    rw [hd] at hnx ⊢
    rw [hsp, splitB_one _ (List.count_eq_zero.2 hnx)]
theorem rnamed_calls {O : Old} {h : AHeap} {R : List Chunk} {l : List UInt8} (k : Own O h R) (hm : l.length ≤ 900000) :
    ACalls Tryd.prog 25 #[tx l] h fun r h' => r = .bool (nameB l) ∧ Own O h' R := by
  refine ACalls.of_awp (args := [tx l]) (n := 11) Tryd.func25 rfl rfl (by show 1 ≤ 11; omega) ?_
  (repeat' first
    | refine AWP.seq ?_
    | refine AWP.block ?_
    | (refine AWP.skip ?_; try dsimp only [thn, inBlk])
    | (refine AWP.exit ?_; try simp only [thn, inBlk, if_true, reduceIte, Nat.reduceEqDiff])
    | (refine AWP.ret ?_; try dsimp only [thn, inBlk])
    | (refine AWP.condT ?_ ?_; (focus (simp [go_sem]; done)))
    | (refine AWP.condF ?_ ?_; (focus (simp [go_sem]; done)))
    | (apply AWP.rE; (focus (simp [go_sem]; exact ⟨rfl, rfl⟩)); try dsimp only [thn, inBlk])
    | fail)
  refine AWP.callE (by simp [go_sem]; exact ⟨rfl, rfl, rfl, rfl, rfl⟩) (by kernel_rfl) ?_
  refine (rparse_calls k hm).mono ?_
  rintro r h1 ⟨⟨a, n, cap, q, rfl⟩, k1⟩
  have k2 := k1.push (.row [.slice a n cap, tx q] 57 2 true false)
  refine awpL_restE (by simp [go_sem]; exact ⟨rfl, rfl⟩) ?_; try dsimp only [thn, inBlk]
  (repeat' first
    | refine AWP.seq ?_
    | refine AWP.block ?_
    | (refine AWP.skip ?_; try dsimp only [thn, inBlk])
    | (refine AWP.exit ?_; try simp only [thn, inBlk, if_true, reduceIte, Nat.reduceEqDiff])
    | (refine AWP.ret ?_; try dsimp only [thn, inBlk])
    | (refine AWP.condT ?_ ?_; (focus (simp [go_sem]; done)))
    | (refine AWP.condF ?_ ?_; (focus (simp [go_sem]; done)))
    | (apply AWP.rE; (focus (simp [go_sem]; exact ⟨rfl, rfl⟩)); try dsimp only [thn, inBlk])
    | fail)
  simp [bodyQ, thn, inBlk, resA, resV, go_sem]
  exact k2.tail
end L11

