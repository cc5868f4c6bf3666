import Derived.Test.YtdhgidgikjefbaaDoorL09g
open Go Ab Go.Proofs
namespace L09
set_option autoImplicit false
set_option linter.unusedSimpArgs false
set_option linter.unusedVariables false

/-! ### List -/
theorem keys_calls {h : AHeap} {m : Nat} : ACalls Tryd.prog 21 #[.map (some m)] h fun r h' => r = .func (.func 28) #[] #[ptr h.next] ∧ h' = h.push (.row [.map (some m)] 47 1 true false) := by
  refine ACalls.of_awp (args := [.map (some m)]) (n := 4) Tryd.func21 rfl rfl (by show 1 ≤ 4; omega) ?_
  (repeat' first
    | refine AWP.seq ?_
    | refine AWP.block ?_
    | (refine AWP.skip ?_; try dsimp only [thn, inBlk])
    | (refine AWP.exit ?_; try simp only [thn, inBlk, if_true, reduceIte, Nat.reduceEqDiff])
    | (refine AWP.ret ?_; try dsimp only [thn, inBlk])
    | (refine AWP.condT ?_ ?_; (focus (simp [go_sem]; done)))
    | (refine AWP.condF ?_ ?_; (focus (simp [go_sem]; done)))
    | (apply AWP.rE; (focus (simp [go_sem]; exact ⟨rfl, rfl⟩)); try dsimp only [thn, inBlk])
    | fail)
  simp [bodyQ, thn, inBlk, resA, resV, go_sem]
abbrev srt (l : List (List UInt8)) : List (List UInt8) := l.mergeSort Go.leB
def look1 (L : BL) (n : List UInt8) : En := (get L n).getD zE
def listL (L : BL) : List En := (srt (L.map (·.1))).map (look1 L)
abbrev ens (v : Value) (l : List En) : Chunk := os 34 20 v l.length (l.map en).flatten
theorem listL_len (L : BL) : (listL L).length = L.length := by
  rw [listL, List.length_map]
  show (List.mergeSort _ _).length = _
  rw [List.length_mergeSort, List.length_map]
theorem get_of_mem {L : BL} (h : (L.map (·.1)).Nodup) {x : List UInt8 × En} (hx : x ∈ L) : get L x.1 = some x.2 := by
  cases hg : get L x.1 with
  | none => exact absurd rfl (get_none hg x hx)
  | some n =>
    obtain ⟨j, hj, _⟩ := get_some hg
    have := inj_of_nodup (f := fun y : List UInt8 × En => y.1) h (List.mem_of_getElem? hj) hx rfl
    rw [← this]
theorem zE_size : (enV zE).cells.size = 20 := by simp only [Value.cells, List.size_toArray]; exact en_len
theorem build1 {id : Nat} {e : En} : buildSliceA Tryd.prog id 28 1 [(0, enV e)] = some (.slice (some ⟨id, 0, none⟩) 1 1, .row (en e) 34 20 true false) :=
  buildSlice1 (z := enV zE) Tryd.underlying28 tsz34 tzE (by omega) (by rw [zE_size]; omega) (by omega) (by simp only [Value.cells]; exact zE_const) en_len
section
variable {O : Old} {h : AHeap} {R : List Chunk} {i m : Nat} {L : BL}
set_option maxHeartbeats 8000000 in
theorem list_calls (hI : BI L) (k : Own O h (bsc i L :: R)) :
    ACalls Tryd.prog 15 #[ptr i] h fun r h' => ∃ a cap, r = .slice a (listL L).length cap ∧ Own O h' (ens (.slice a (listL L).length cap) (listL L) :: bsc i L :: R) := by
  obtain ⟨m, k0⟩ := bsc_iff.1 k
  have hmx := hI.mx
  refine ACalls.of_awp (args := [ptr i]) (n := 27) Tryd.func15 rfl rfl (by show 1 ≤ 27; omega) ?_
  have ci := k0.obj
  (repeat' first
    | refine AWP.seq ?_
    | refine AWP.block ?_
    | (refine AWP.skip ?_; try dsimp only [thn, inBlk])
    | (refine AWP.exit ?_; try simp only [thn, inBlk, if_true, reduceIte, Nat.reduceEqDiff])
    | (refine AWP.ret ?_; try dsimp only [thn, inBlk])
    | (refine AWP.condT ?_ ?_; (focus (simp [go_sem]; done)))
    | (refine AWP.condF ?_ ?_; (focus (simp [go_sem]; done)))
    | (apply AWP.rE; (focus (simp [go_sem]; exact ⟨rfl, rfl⟩)); try dsimp only [thn, inBlk])
    | fail)
  refine AWP.callE (by simp [go_sem, ci]; exact ⟨rfl, rfl, rfl, rfl, rfl⟩) (by kernel_rfl) ?_
  refine (keys_calls (m := m)).mono ?_
  rintro r h1 ⟨rfl, rfl⟩
  have k1 := k0.push (.row [.map (some m)] 47 1 true false)
  have cb := k1.obj
  refine awpL_toCall (by simp [go_sem]; exact ⟨rfl, rfl, rfl, rfl, rfl⟩) (by kernel_rfl) ?_
  refine (sorted_calls cb k1.b2 hI.kl (by omega) hI.nd).mono ?_
  rintro r h2 hv
  obtain ⟨ss, hss⟩ : ∃ ss, ss = srt (L.map (·.1)) := ⟨_, rfl⟩
  have hsl : ss.length = L.length := by rw [hss]; show (List.mergeSort _ _).length = _; rw [List.length_mergeSort, List.length_map]
  obtain ⟨va, vc, rfl, k2⟩ : ∃ va vc, r = .slice va ss.length vc ∧ Own O h2 (txs (.slice va ss.length vc) ss :: cell i (brow m) :: mpc tx enV m L :: R) := by
    rcases hv with ⟨e, rfl, rfl⟩ | ⟨e, rfl, rfl⟩
    · subst e
      have e0 : ss = [] := List.eq_nil_of_length_eq_zero hsl
      subst e0
      exact ⟨none, 0, rfl, k1.tail.nil 9 1⟩
    · refine ⟨_, _, by rw [hsl], ?_⟩
      rw [show List.mergeSort (L.map (·.1)) Go.leB = ss from hss.symm, ← hsl]
      exact (k1.tail.push (.row (ss.map Ab.T) 9 1 false false)).os_mk (n := ss.length) (cap := ss.length) (off := 0) (Nat.le_refl _) (by simp) (by rw [Nat.mul_one, List.drop_zero, List.take_of_length_le (by simp)])
  have hsm : ∀ p ∈ ss, p.length ≤ 1000000 ∧ (get L p).isSome = true := fun p hp => by
    have : p ∈ L.map (·.1) := by rw [hss] at hp; exact (List.mergeSort_perm _ _).mem_iff.1 hp
    obtain ⟨x, hx, rfl⟩ := List.mem_map.1 this
    exact ⟨hI.kl x hx, by rw [get_of_mem hI.nd hx]; rfl⟩
  have hnl : listL L = ss.map (look1 L) := by rw [hss]; rfl
  refine awpL_restE (by simp [go_sem]; exact ⟨rfl, rfl⟩) ?_; try dsimp only [thn, inBlk]
  (repeat' first
    | refine AWP.seq ?_
    | refine AWP.block ?_
    | (refine AWP.skip ?_; try dsimp only [thn, inBlk])
    | (refine AWP.exit ?_; try simp only [thn, inBlk, if_true, reduceIte, Nat.reduceEqDiff])
    | (refine AWP.ret ?_; try dsimp only [thn, inBlk])
    | (refine AWP.condT ?_ ?_; (focus (simp [go_sem]; done)))
    | (refine AWP.condF ?_ ?_; (focus (simp [go_sem]; done)))
    | (apply AWP.rE; (focus (simp [go_sem]; exact ⟨rfl, rfl⟩)); try dsimp only [thn, inBlk])
    | fail)
  have k3 : Own O h2 (ens (.slice none 0 0) [] :: txs (.slice va ss.length vc) ss :: cell i (brow m) :: mpc tx enV m L :: R) := k2.nil 34 20
  refine AWP.loopR [0, 2, 10, 11, 12] (fun n s h' => ∃ (j : Nat) (a : Option Addr) (cap : Nat), j ≤ ss.length ∧ n = ss.length - j ∧ s = ⟨27, [(0, ptr i), (2, .slice a j cap), (10, .slice va ss.length vc), (11, .int .i64 ss.length), (12, .int .i64 j)]⟩ ∧
    Own O h' (os 34 20 (.slice a j cap) j (((ss.take j).map (look1 L)).map en).flatten :: txs (.slice va ss.length vc) ss :: cell i (brow m) :: mpc tx enV m L :: R)) ?_ ?_
  · exact ⟨_, 0, none, 0, by omega, rfl, by simp [go_sem], k3⟩
  rintro n s hB ⟨j, a, cap, hj, rfl, rfl, kB⟩
  by_cases hjm : j < ss.length
  rotate_left
  · have hjm' : ¬ (j : Int) < ss.length := by omega
    obtain rfl : j = ss.length := by omega
    rw [List.take_length, ← hnl] at kB
    have hlen : (listL L).length = ss.length := by rw [hnl, List.length_map]
    (repeat' first
      | refine AWP.seq ?_
      | refine AWP.block ?_
      | (refine AWP.skip ?_; try dsimp only [thn, inBlk])
      | (refine AWP.exit ?_; try simp only [thn, inBlk, if_true, reduceIte, Nat.reduceEqDiff])
      | (refine AWP.ret ?_; try dsimp only [thn, inBlk])
      | (refine AWP.condT ?_ ?_; (focus (simp [go_sem, hjm']; done)))
      | (refine AWP.condF ?_ ?_; (focus (simp [go_sem, hjm']; done)))
      | (apply AWP.rE; (focus (simp [go_sem, hjm']; exact ⟨rfl, rfl⟩)); try dsimp only [thn, inBlk])
      | fail)
    simp [bodyQ, thn, inBlk, resA, resV, go_sem]
    refine ⟨a, cap, ⟨rfl, hlen.symm, rfl⟩, ?_⟩
    rw [ens, hlen]
    exact (bsc_iff.2 ⟨m, kB.d1.b2.b2⟩ : Own O hB (bsc i L :: _)).b1
  have hjm' : (j : Int) < ss.length := by omega
  have hgj : (ss.map Ab.T)[j]? = some (tx ss[j]) := by simp [hjm, Ab.T]
  obtain ⟨hpl, hps⟩ := hsm ss[j] (List.getElem_mem hjm)
  have htk : ss.take (j + 1) = ss.take j ++ [ss[j]] := List.take_succ_eq_append_getElem hjm
  obtain ⟨bi, bo, c, e', sz, ti, ro, q1, q2, q3⟩ := kB.b1.os_sl.at1 (P := Tryd.prog) (t := 51) Tryd.underlying51 tsz9 hjm hgj (kd := .i64)
  generalize ss[j] = p at q3 hpl hps htk
  obtain ⟨e, hge⟩ := Option.isSome_iff_exists.1 hps
  obtain ⟨jj, hjj, _⟩ := get_some hge
  have hlk := kB.b3.map_hit txEnc Tryd.underlying47 tzE (by simp only [constOk]; exact zE_const) hpl hI.kl hI.nd (List.mem_of_getElem? hjj) false
  have ciB : hB.obj i = some (brow m) := kB.b2.obj
  have w1 : IntKind.i64.wrap ((j : Int) + 1) = ((j + 1 : Nat) : Int) := by rw [wI64 (by omega) (by omega)]; omega
  obtain ⟨na, nc, h7, e7, k7⟩ := Own.appN (P := Tryd.prog) (t := 28) (xt := 28) (m := 1) (xs := en e) (i := hB.next) Tryd.underlying28 tsz34 tby34 tzE nI28 (by omega) (by omega) zE_size kB rfl en_len en_ok (by omega)
  have b1 := build1 (id := hB.next) (e := e)
  (repeat' first
    | refine AWP.seq ?_
    | refine AWP.block ?_
    | (refine AWP.skip ?_; try dsimp only [thn, inBlk])
    | (refine AWP.exit ?_; try simp only [thn, inBlk, if_true, reduceIte, Nat.reduceEqDiff])
    | (refine AWP.ret ?_; try dsimp only [thn, inBlk])
    | (refine AWP.condT ?_ ?_; (focus (simp [go_sem, hjm', q1, q2, q3, ciB, hlk, ↓b1, e7, w1]; done)))
    | (refine AWP.condF ?_ ?_; (focus (simp [go_sem, hjm', q1, q2, q3, ciB, hlk, ↓b1, e7, w1]; done)))
    | (apply AWP.rE; (focus (simp [go_sem, hjm', q1, q2, q3, ciB, hlk, ↓b1, e7, w1]; exact ⟨rfl, rfl⟩)); try dsimp only [thn, inBlk])
    | fail)
  refine ⟨ss.length - (j + 1), by omega, j + 1, na, nc, by omega, rfl, by simp [go_sem], ?_⟩
  have e9 : look1 L p = e := by simp [look1, hge]
  rw [htk, List.map_append, List.map_append, List.flatten_append, List.map_cons, List.map_nil, e9, List.map_cons, List.map_nil, List.flatten_cons, List.flatten_nil, List.append_nil]
  exact k7
end
end L09
