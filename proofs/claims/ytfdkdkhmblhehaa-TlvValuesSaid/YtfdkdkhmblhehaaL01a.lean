import Derived.Test.YtfdkdkhmblhehaaProg
import Derived.KernelRfl
import Derived.Test.YtfdkdkhmblhehaaAbX
open Go Ab Go.Proofs
namespace T1
set_option autoImplicit false
set_option linter.unusedSimpArgs false
set_option linter.unusedVariables false

theorem tsz5 : tsz Try.prog 5 = some 1 := by kernel_rfl
theorem tby5 : tby Try.prog 5 = some 1 := by kernel_rfl
theorem tz5 : tzero Try.prog 5 = some (.int .u8 0) := by kernel_rfl
theorem nI24 : noInt Try.prog 24 = true := by simp [noInt, Try.underlying24]
theorem agg5 : aggB Try.prog 5 = some false := by simp [aggB, Try.underlying5]
theorem agg3 : aggB Try.prog 3 = some false := by simp [aggB, Try.underlying3]
theorem hmix : Try.prog.follows .mixedOrders = true := by kernel_rfl
attribute [local go_sem] tsz5 tby5 tz5 nI24 Try.underlying24 Try.underlying5 agg5 agg3 Try.underlying3 Try.underlying4 Try.underlying23 Try.underlying32 Try.underlying9 Try.underlying46 Try.underlying29 Try.underlying45
theorem rev_nil (h : AHeap) : ACalls Try.prog 26 #[.slice none 0 0] h fun r h' => h' = h := by
  refine ACalls.of_awp (args := [.slice none 0 0]) (n := 28) Try.func26 rfl rfl (by show 1 ≤ 28; omega) ?_
  refine AWP.sr [0, 2, 3] (by simp [go_sem, lenE]; exact ⟨rfl, rfl⟩) ?_
  refine AWP.block ?_
  refine AWP.loopR [0, 2, 3] (fun n s h' => h' = h ∧ s = ⟨28, [(0, .slice none 0 0), (2, .int .i64 0), (3, .int .i64 (-1))]⟩) ?_ ?_
  · exact ⟨0, rfl, by simp [go_sem]; rfl⟩
  · rintro n s h ⟨rfl, rfl⟩
    refine AWP.seq ?_
    refine AWP.sr [0, 2, 3, 9] (by simp [go_sem]; exact ⟨rfl, rfl⟩) ?_
    refine AWP.cond (by simp [go_sem]; rfl) (fun hc => ?_) (fun hc => ?_)
    · cases hc
    · refine AWP.exit ?_
      simp [bodyQ, thn, inBlk, resA, go_sem, resV]

theorem rev_full (h : AHeap) (b off len cap : Nat) (c : List Value) (ti : Bool) (bs : List UInt8) (hl : bs.length = len) (hb : b < h.next) (hc : h.obj b = some (.row c 5 1 ti false)) (hlen : off + len ≤ c.length) (hbs : (c.drop off).take len = bs.map B)
    (hmax : len ≤ 140737488355328) :
    ACalls Try.prog 26 #[.slice (some ⟨b, off, none⟩) len cap] h fun r h' => ∃ c', h'.obj b = some (.row c' 5 1 ti false) ∧ c'.length = c.length ∧ (c'.drop off).take len = bs.reverse.map B ∧ h'.next = h.next ∧ h'.base = h.base ∧ ∀ j, j ≠ b → h'.obj j = h.obj j := by
  refine ACalls.of_awp (args := [.slice (some ⟨b, off, none⟩) len cap]) (n := 28) Try.func26 rfl rfl (by show 1 ≤ 28; omega) ?_
  refine AWP.sr [0, 2, 3] (by simp [go_sem, lenE]; exact ⟨rfl, rfl⟩) ?_
  refine AWP.block ?_
  have hget : ∀ k (hk : k < len), c[off + k]? = some (B (bs[k]'(by omega))) := by
    intro k hk
    have e := congrArg (·[k]?) hbs
    simp only [List.getElem?_take, if_pos hk, List.getElem?_drop, List.getElem?_map] at e
    rw [e, List.getElem?_eq_getElem (by omega)]; rfl
  refine AWP.loopR [0, 2, 3] (fun n s h' => ∃ (i : Nat) (c' : List Value), s = ⟨28, [(0, .slice (some ⟨b, off, none⟩) len cap), (2, .int .i64 i), (3, .int .i64 ((len : Int) - 1 - i))]⟩ ∧ n = len - i ∧ 2 * i ≤ len + 1 ∧
      h'.obj b = some (.row c' 5 1 ti false) ∧ c'.length = c.length ∧ h'.next = h.next ∧ h'.base = h.base ∧ (∀ j, j ≠ b → h'.obj j = h.obj j) ∧
      ∀ k (hk : k < len), c'[off + k]? = some (B (if k < i ∨ len - i ≤ k then bs[len - 1 - k]'(by omega) else bs[k]'(by omega)))) ?_ ?_
  · refine ⟨len, 0, c, ?_, rfl, by omega, hc, rfl, rfl, rfl, fun _ _ => rfl, fun k hk => ?_⟩
    · rw [wI64 (by omega) (by omega)]
      simp [go_sem]
    · rw [hget k hk, if_neg (by omega)]
  · rintro n s h' ⟨i, c', rfl, rfl, hi, hc', hlc, hnx, hbx, hoth, hall⟩
    refine AWP.seq ?_
    refine AWP.sr [0, 2, 3, 9] (by simp [go_sem]; exact ⟨rfl, rfl⟩) ?_
    refine AWP.cond (by simp [go_sem]; rfl) (fun hcc => ?_) (fun hcc => ?_)
    rotate_left
    · refine AWP.exit ?_
      simp [bodyQ, thn, inBlk, resA, go_sem, resV]
      simp at hcc
      refine ⟨c', hc', hlc, ?_, hnx, hbx, hoth⟩
      apply List.ext_getElem?
      intro k
      rw [List.getElem?_take]
      by_cases hk : k < len
      · rw [if_pos hk, List.getElem?_drop, hall k hk, List.getElem?_reverse (by simp; omega)]
        simp only [List.length_map, hl, List.getElem?_map]
        rw [List.getElem?_eq_getElem (by omega)]
        simp only [Option.map_some]
        split
        · rfl
        · have : k = len - 1 - k := by omega
          congr 2
          exact getElem_congr_idx this
      · rw [if_neg hk, List.getElem?_eq_none (by simp; omega)]
    simp at hcc
    refine AWP.skip ?_
    simp only [thn, inBlk]
    refine AWP.seq ?_
    refine AWP.block ?_
    have hi1 : i < len := by omega
    have e1 : c'[off + i]? = some (B (bs[i]'(by omega))) := by rw [hall i hi1, if_neg (by omega)]
    have e2 : c'[off + (len - 1 - i)]? = some (B (bs[len - 1 - i]'(by omega))) := by rw [hall _ (by omega), if_neg (by omega)]
    have a1 : indexAddrP Try.prog 24 (.slice (some ⟨b, off, none⟩) len cap) (.int .i64 i) = some (.pointer (some ⟨b, off + i, none⟩)) := by
      simp [indexAddrP, go_sem, hi1]
    have a2 : indexAddrP Try.prog 24 (.slice (some ⟨b, off, none⟩) len cap) (.int .i64 ((len : Int) - 1 - i)) = some (.pointer (some ⟨b, off + (len - 1 - i), none⟩)) := by
      simp only [indexAddrP, Try.underlying24, tsz5]
      rw [if_pos (by omega)]
      simp only [Option.map_some]
      congr 5; omega
    refine AWP.draw hmix [.n 0 [0], .n 1 [2], .n 2 [0], .n 3 [3], .n 4 [0], .n 5 [3], .n 6 [18, 19], .n 7 [20], .n 8 [0], .n 9 [2], .n 10 [22, 23], .n 11 [24], .n 12 [14, 15], .w 13 [26, 21] [], .n 14 [16, 17], .w 15 [27, 25] []] (by kernel_rfl) ?_
    have s1 : storeW Try.prog h' 5 (.pointer (some ⟨b, off + i, none⟩)) (B (bs[len - 1 - i]'(by omega))) = some (h'.set b (.row (c'.set (off + i) (B (bs[len - 1 - i]'(by omega)))) 5 1 ti false)) :=
      storeW_cell tsz5 hc' (by omega) rfl rfl rfl
    have s2 : storeW Try.prog (h'.set b (.row (c'.set (off + i) (B (bs[len - 1 - i]'(by omega)))) 5 1 ti false)) 5 (.pointer (some ⟨b, off + (len - 1 - i), none⟩)) (B (bs[i]'(by omega))) = some ((h'.set b (.row (c'.set (off + i) (B (bs[len - 1 - i]'(by omega)))) 5 1 ti false)).set b (.row ((c'.set (off + i) (B (bs[len - 1 - i]'(by omega)))).set (off + (len - 1 - i)) (B (bs[i]'(by omega)))) 5 1 ti false)) :=
      storeW_cell tsz5 (set_self _ _ _) (by simp; omega) rfl rfl rfl
    refine awpD_write 13 _ _ _ (by simp [go_sem, a1, a2, loadR, hc', e1, e2]; exact ⟨rfl, rfl, rfl⟩) rfl rfl rfl (by simp [go_sem]) (by simp [go_sem, s1]; exact ⟨rfl, rfl⟩) (by simp [still]) ?_
    refine awpD_write 1 _ _ _ (by simp [go_sem, a1, a2]; exact ⟨rfl, rfl, rfl⟩) rfl rfl rfl (by simp [go_sem]) (by simp [go_sem, s2]; exact ⟨rfl, rfl⟩) (by simp [still]) ?_
    refine awpD_rest (by simp [go_sem]; exact ⟨rfl, rfl, rfl⟩) ?_
    simp only [thn, inBlk]
    refine AWP.onlyE [0, 2, 3] (by simp [go_sem]; rfl) ?_
    refine AWP.r [0, 2, 3] (by simp (disch := omega) [go_sem, wI64]; exact ⟨rfl, rfl⟩) (fun s' hs' => ?_)
    refine ⟨len - (i + 1), by omega, i + 1, _, hs'.trans ?_, rfl, by omega, set_self _ _ _, by simp [hlc], hnx, hbx, fun j hj => by rw [set_ne _ _ _ _ hj, set_ne _ _ _ _ hj, hoth j hj], fun k hk => ?_⟩
    · congr 6; omega
    · rw [List.getElem?_set, List.getElem?_set]
      by_cases hk1 : k = i
      · subst hk1
        rw [if_neg (by omega), if_pos rfl, if_pos (by omega), if_pos (by omega)]
      · by_cases hk2 : k = len - 1 - i
        · subst hk2
          rw [if_pos rfl, if_pos (by simp; omega), if_pos (by omega)]
          congr 2
          exact getElem_congr_idx (by omega)
        · rw [if_neg (by omega), if_neg (by omega), hall k hk]
          by_cases hk3 : k < i ∨ len - i ≤ k
          · rw [if_pos hk3, if_pos (by omega)]
          · rw [if_neg hk3, if_neg (by omega)]

theorem reverse_calls (h : AHeap) (lo : Nat) (v : Value) (bs : List UInt8) (hv : GB 5 lo h v bs) (hmax : bs.length ≤ 140737488355328) :
    ACalls Try.prog 26 #[v] h fun r h' => GB 5 lo h' v bs.reverse ∧ Fr lo h h' ∧ ∀ j, blkOf v ≠ some j → h'.obj j = h.obj j := by
  rcases hv with ⟨rfl, h1, h2⟩ | ⟨i, off, c, ti, rfl, h1, h2, h3, h4, h5⟩
  · refine (rev_nil h).mono ?_
    rintro v h' rfl
    obtain rfl : bs = [] := by simpa using h1
    exact ⟨.inl ⟨rfl, rfl, rfl⟩, .refl _ _, fun _ _ => rfl⟩
  · refine (rev_full h i off bs.length bs.length c ti bs rfl h2 h3 (by omega) (by simpa using h5) hmax).mono ?_
    rintro v h' ⟨c', k1, k2, k3, k4, k5, k6⟩
    refine ⟨.inr ⟨i, off, c', ti, by simp, h1, by omega, k1, by simp; omega, by simpa using k3⟩, ⟨by omega, k5, fun j hj => k6 j (by omega)⟩, fun j hj => k6 j (by rintro rfl; exact hj rfl)⟩

/-- A number's bytes, the last one first. -/
def leL (n : Nat) : List UInt8 := if h : n = 0 then [] else UInt8.ofNat n :: leL (n / 256)
  decreasing_by omega

theorem leL_zero : leL 0 = [] := by rw [leL]; simp
theorem leL_pos {n : Nat} (h : 0 < n) : leL n = UInt8.ofNat n :: leL (n / 256) := by rw [leL]; simp [Nat.ne_of_gt h]

theorem leL_length (k : Nat) : ∀ n, n < 256 ^ k → (leL n).length ≤ k := by
  induction k with
  | zero => intro n hn; obtain rfl : n = 0 := by simpa using hn
            simp [leL_zero]
  | succ k ih =>
    intro n hn
    by_cases h : n = 0
    · subst h; simp [leL_zero]
    · rw [leL_pos (by omega)]
      have := ih (n / 256) (by rw [Nat.pow_succ] at hn; exact Nat.div_lt_of_lt_mul (by omega))
      simp; omega

theorem B_ofNat (n : Nat) : B (UInt8.ofNat n) = .int .u8 (IntKind.u8.wrap n) := by
  rw [IntKind.wrap_u8]; simp [B]

theorem num_calls (h : AHeap) (n : Nat) (hn : n < 18446744073709551616) : ACalls Try.prog 11 #[.int .u64 n] h fun r h' => GB 5 h.next h' r (leL n).reverse ∧ Ext h h' := by
  refine ACalls.wf fun hb0 hn0 => ?_
  refine ACalls.of_awp (args := [.int .u64 n]) (n := 15) Try.func11 rfl rfl (by show 1 ≤ 15; omega) ?_
  refine AWP.sr [0, 2] (by simp [go_sem]; exact ⟨rfl, rfl⟩) ?_
  refine AWP.seq ?_
  refine AWP.block ?_
  refine AWP.loopR [0, 2] (fun n' s h' => ∃ v bs, s = ⟨15, [(0, .int .u64 n'), (2, v)]⟩ ∧ n' < 18446744073709551616 ∧ GB 5 h.next h' v bs ∧ Fr h.next h h' ∧ leL n = bs ++ leL n' ∧ bs.length + (leL n').length ≤ 8) ?_ ?_
  · refine ⟨n, _, [], by simp [go_sem], hn, GS.nil _ _ _ _, .refl _ _, rfl, ?_⟩
    have := leL_length 8 n hn
    simpa using this
  · rintro m s h' ⟨v, bs, rfl, hm, hv, hfr, hle, hl8⟩
    refine AWP.seq ?_
    refine AWP.sr [0, 2, 4] (by simp [go_sem]; exact ⟨rfl, rfl⟩) ?_
    refine AWP.cond (by simp [go_sem]; rfl) (fun hc => ?_) (fun hc => ?_)
    rotate_left
    · refine AWP.exit ?_   -- block 0
      simp only [thn, inBlk, if_true]
      obtain rfl : m = 0 := by simpa using hc
      rw [leL_zero, List.append_nil] at hle
      refine AWP.sc [2] ?_
      refine awpL_call 1 (by simp [go_sem]; exact ⟨rfl, rfl⟩) rfl rfl (by simp [go_sem]) (by simp [go_sem]; exact ⟨rfl, rfl⟩) (by kernel_rfl) ?_   -- slices.Reverse[[]byte,byte]
      refine (reverse_calls h' h.next v bs hv (by omega)).mono ?_
      rintro r h2 ⟨hv2, hfr2, _⟩
      refine awpL_rest (by simp [go_sem]; exact ⟨rfl, rfl⟩) ?_
      refine AWP.sr [2] (by simp [go_sem]; exact ⟨rfl, rfl⟩) ?_
      refine AWP.ret ?_
      simp [bodyQ, thn, inBlk, resA, go_sem, resV]
      rw [hle]
      exact ⟨hv2, (hfr.trans hfr2).ext⟩
    have hm0 : 0 < m := by simpa using hc
    refine AWP.skip ?_
    simp only [thn, inBlk]
    refine AWP.seq ?_
    refine AWP.block ?_
    have hl := leL_pos hm0
    have hb1 := hfr.base
    have hn1 := hfr.next
    obtain ⟨v', h2, e1, hv', hfr', _, _⟩ := GB.app (P := Try.prog) (t := 24) (xt := 24) (lo := h.next) (h := h'.push (.row [.int .u8 (IntKind.u8.wrap m)] 5 1 true false)) (v := v) (xv := .slice (some ⟨h'.next, 0, none⟩) 1 1) (bs := bs) (xs := [UInt8.ofNat m])
      Try.underlying24 tsz5 tby5 tz5 nI24 (hv.ext ((Ext.refl h').push _)) (by simp [srcCells, go_sem, B_ofNat]) (by simp; omega) (by rw [push_base, hb1]; exact hb0) (by rw [push_next]; omega)
    refine AWP.r [0, 2] (by simp [go_sem, buildSliceA, zeros, Instr.fill, e1]; exact ⟨rfl, rfl⟩) (fun s' hs' => ?_)
    simp only [thn, inBlk]
    refine AWP.only [0, 2] ?_
    rw [hs']
    refine AWP.r [0, 2] (by simp [go_sem]; exact ⟨rfl, rfl⟩) (fun s2 hs2 => ?_)
    rw [leL_pos hm0] at hle hl8
    refine ⟨m / 256, by omega, v', bs ++ [UInt8.ofNat m], hs2.trans ?_, by omega, hv', ?_, by simpa using hle, by simp at hl8 ⊢; omega⟩
    · rw [show (m : Int).fdiv 256 = ((m / 256 : Nat) : Int) from by rw [Int.fdiv_eq_ediv_of_nonneg _ (by decide)]; omega]
    · exact (hfr.trans (((Ext.refl h').push _).fr hn1)).trans hfr'

def valL (bs : List UInt8) : Nat := bs.foldl (fun n u => 256 * n + u.toNat) 0
def readL (bs : List UInt8) : Option Nat := if 8 < bs.length ∨ bs.head? = some 0 then none else some (valL bs)
def readV (bs : List UInt8) : Value := match readL bs with
  | some n => .tuple #[.int .u64 n, .bool true]
  | none => .tuple #[.int .u64 0, .bool false]

theorem valL_lt (bs : List UInt8) : valL bs < 256 ^ bs.length := by
  have key : ∀ (l : List UInt8) (n k : Nat), n < 256 ^ k → l.foldl (fun n u => 256 * n + u.toNat) n < 256 ^ (k + l.length) := by
    intro l
    induction l with
    | nil => intro n k h; simpa using h
    | cons u l ih =>
      intro n k h
      have := ih (256 * n + u.toNat) (k + 1) (by have := u.toNat_lt; rw [Nat.pow_succ]; omega)
      simp only [List.foldl_cons, List.length_cons]
      rw [show k + (l.length + 1) = k + 1 + l.length by omega]; exact this
  simpa [valL] using key bs 0 0 (by simp)

theorem valL_take {bs : List UInt8} {i : Nat} (h : i < bs.length) : valL (bs.take (i + 1)) = 256 * valL (bs.take i) + bs[i].toNat := by
  rw [List.take_succ_eq_append_getElem h]; simp only [valL, List.foldl_append, List.foldl_cons, List.foldl_nil]

theorem readL_some {bs : List UInt8} (h8 : ¬ 8 < bs.length) (h0 : bs.head? ≠ some 0) : readV bs = .tuple #[.int .u64 (valL bs), .bool true] := by
  simp [readV, readL, h8, h0]
theorem readL_none {bs : List UInt8} (h0 : 8 < bs.length ∨ bs.head? = some 0) : readV bs = .tuple #[.int .u64 0, .bool false] := by
  simp [readV, readL, h0]

theorem or_u64 {n b : Nat} (hn : n < 2 ^ 56) (hb : b < 256) : ((BitVec.ofInt 64 ((n : Int) * 256) ||| BitVec.ofNat 64 b).toNat : Int) = ((256 * n + b : Nat) : Int) := by
  have e1 : BitVec.ofInt 64 ((n : Int) * 256) = BitVec.ofNat 64 (256 * n) := by
    rw [← BitVec.ofInt_natCast]; congr 1; omega
  rw [e1, BitVec.toNat_or, BitVec.toNat_ofNat, BitVec.toNat_ofNat, Nat.mod_eq_of_lt (by omega), Nat.mod_eq_of_lt (by omega)]
  have := Nat.two_pow_add_eq_or_of_lt (i := 8) hb n
  norm_cast
  rw [← this]

theorem read_calls (h : AHeap) (v : Value) (bs : List UInt8) (hv : Bytes h v bs) : ACalls Try.prog 12 #[v] h fun r h' => r = readV bs ∧ h' = h := by
  refine ACalls.wf fun hb0 hn0 => ?_
  have hlen := hv.len (P := Try.prog) Try.underlying24
  refine ACalls.of_awp (args := [v]) (n := 33) Try.func12 rfl rfl (by show 1 ≤ 33; omega) ?_
  refine AWP.sr [0, 2] (by simp [go_sem]; exact ⟨rfl, rfl⟩) ?_
  refine AWP.seq ?_
  by_cases h8 : 8 < bs.length
  · have h8' : (8 : Int) < bs.length := by omega
    refine AWP.sr [0, 2, 19] (by simp [go_sem, hlen, h8']; exact ⟨rfl, rfl⟩) ?_
    refine AWP.cond (by simp [go_sem]; rfl) (fun hc => ?_) (fun hc => by cases hc)
    refine AWP.sr [2, 3] (by simp [go_sem]; exact ⟨rfl, rfl⟩) ?_
    refine AWP.ret ?_
    simp [bodyQ, thn, inBlk, resA, go_sem, resV, readL_none (.inl h8)]
  have h8' : ¬ (8 : Int) < bs.length := by omega
  by_cases h0 : bs.head? = some 0
  · have hp : 0 < bs.length := by cases bs <;> simp at h0 ⊢
    have hp' : 0 < (bs.length : Int) := by omega
    obtain ⟨p, e1, e2⟩ := hv.get (P := Try.prog) (t := 24) (e := 5) Try.underlying24 agg5 tsz5 hp (kd := .i64)
    have e1' : indexAddrP Try.prog 24 v (.int .i64 0) = some p := e1
    have e3 : bs[0] = 0 := by cases bs <;> simp at h0 ⊢; exact h0
    rw [e3] at e2
    have hne : bs ≠ [] := List.length_pos_iff.1 hp
    refine AWP.sr [0, 2, 19] (by simp [go_sem, hlen, h8', hp, e1', e2, B]; exact ⟨rfl, rfl⟩) ?_
    refine AWP.cond (by simp [go_sem]; rfl) (fun hc => ?_) (fun hc => by cases hc)
    refine AWP.sr [2, 3] (by simp [go_sem]; exact ⟨rfl, rfl⟩) ?_
    refine AWP.ret ?_
    simp [bodyQ, thn, inBlk, resA, go_sem, resV, readL_none (.inr h0)]
  rw [readL_some h8 h0]
  refine AWP.sr [0, 2, 19] (s2 := ⟨33, [(0, v), (2, .int .u64 0), (19, .bool false)]⟩) (h2 := h) ?_ ?_
  · by_cases hne : bs = []
    · subst hne
      simp [go_sem, hlen]
    · have hp : 0 < bs.length := List.length_pos_iff.2 hne
      obtain ⟨p, e1, e2⟩ := hv.get (P := Try.prog) (t := 24) (e := 5) Try.underlying24 agg5 tsz5 hp (kd := .i64)
      have e1' : indexAddrP Try.prog 24 v (.int .i64 0) = some p := e1
      have e3 : ¬ bs[0] = 0 := by cases bs <;> simp at h0 hne ⊢; exact h0
      have e3' : ¬ bs[0].toNat = 0 := by
        intro h; apply e3; rw [← UInt8.toNat_inj]; simpa using h
      simp [go_sem, hlen, h8', hp, e1', e2, B, e3, e3']
  refine AWP.cond (by simp [go_sem]; rfl) (fun hc => by cases hc) (fun hc => ?_)
  refine AWP.skip ?_
  simp only [thn, inBlk]
  refine AWP.seq ?_
  refine AWP.sr [2, 20, 21, 22] (by simp [go_sem, hlen]; exact ⟨rfl, rfl⟩) ?_
  refine AWP.block ?_
  refine AWP.loopR [2, 20, 21, 22] (fun n s h' => ∃ i : Nat, i ≤ bs.length ∧ n = bs.length - i ∧ h' = h ∧ s = ⟨33, [(2, .int .u64 (valL (bs.take i))), (20, v), (21, .int .i64 bs.length), (22, .int .i64 i)]⟩) ?_ ?_
  · exact ⟨_, 0, by omega, rfl, rfl, by simp [go_sem, valL]⟩
  · rintro n s h' ⟨i, hi, rfl, rfl, rfl⟩
    refine AWP.sr [2, 20, 21, 22, 23] (by simp [go_sem]; exact ⟨rfl, rfl⟩) ?_
    refine AWP.seq ?_
    refine AWP.cond (by simp [go_sem]; rfl) (fun hc => ?_) (fun hc => ?_)
    rotate_left
    · refine AWP.exit ?_   -- block 0
      simp only [thn, inBlk, if_true]
      have hi2 : i = bs.length := by simp at hc; omega
      subst hi2
      refine AWP.sr [2, 3] (by simp [go_sem]; exact ⟨rfl, rfl⟩) ?_
      refine AWP.ret ?_
      simp [bodyQ, thn, inBlk, resA, go_sem, resV]
    have hi2 : i < bs.length := by simpa using hc
    obtain ⟨p, e1, e2⟩ := hv.get (P := Try.prog) (t := 24) (e := 5) Try.underlying24 agg5 tsz5 hi2 (kd := .i64)
    refine AWP.skip ?_
    simp only [thn, inBlk]
    refine AWP.seq ?_
    refine AWP.block ?_
    have hb := bs[i].toNat_lt
    have hlt : valL (bs.take i) < 2 ^ 56 := by
      have := valL_lt (bs.take i)
      rw [List.length_take, Nat.min_eq_left hi] at this
      refine Nat.lt_of_lt_of_le this ?_
      exact Nat.le_trans (Nat.pow_le_pow_right (by omega) (show i ≤ 7 by omega)) (by decide)
    refine AWP.sr [2, 5, 20, 21, 22] (by simp [go_sem, e1, e2]; exact ⟨rfl, rfl⟩) ?_
    refine AWP.r [2, 20, 21, 22] (by simp (disch := omega) [go_sem, B, wU64]; exact ⟨rfl, rfl⟩) (fun s' hs' => ?_)
    simp only [thn, inBlk]
    refine AWP.only [2, 20, 21, 22] ?_
    rw [hs']
    refine AWP.r [2, 20, 21, 22] (by simp (disch := omega) [go_sem, wI64]; exact ⟨rfl, rfl⟩) (fun s2 hs2 => ?_)
    refine ⟨bs.length - (i + 1), by omega, i + 1, by omega, rfl, rfl, hs2.trans ?_⟩
    rw [valL_take hi2]
    exact congrArg (fun z : Int => (⟨33, [(2, .int .u64 z), (20, v), (21, .int .i64 bs.length), (22, .int .i64 ((i + 1 : Nat) : Int))]⟩ : St)) (or_u64 hlt hb)

theorem refRead_calls (h : AHeap) (v : Value) (bs : List UInt8) (hv : Bytes h v bs) : ACalls Try.prog 13 #[v] h fun r h' => r = readV bs ∧ h' = h := by
  refine ACalls.wf fun hb0 hn0 => ?_
  have hlen := hv.len (P := Try.prog) Try.underlying24
  refine ACalls.of_awp (args := [v]) (n := 35) Try.func13 rfl rfl (by show 1 ≤ 35; omega) ?_
  refine AWP.sr [0] (by simp [go_sem]; exact ⟨rfl, rfl⟩) ?_
  refine AWP.seq ?_
  by_cases h8 : 8 < bs.length
  · have h8' : (8 : Int) < bs.length := by omega
    refine AWP.sr [0, 19] (by simp [go_sem, hlen, h8']; exact ⟨rfl, rfl⟩) ?_
    refine AWP.cond (by simp [go_sem]; rfl) (fun hc => ?_) (fun hc => by cases hc)
    refine AWP.sr [2, 3] (by simp [go_sem]; exact ⟨rfl, rfl⟩) ?_
    refine AWP.ret ?_
    simp [bodyQ, thn, inBlk, resA, go_sem, resV, readL_none (.inl h8)]
  have h8' : ¬ (8 : Int) < bs.length := by omega
  by_cases h0 : bs.head? = some 0
  · have hp : 0 < bs.length := by cases bs <;> simp at h0 ⊢
    obtain ⟨p, e1, e2⟩ := hv.get (P := Try.prog) (t := 24) (e := 5) Try.underlying24 agg5 tsz5 hp (kd := .i64)
    have e1' : indexAddrP Try.prog 24 v (.int .i64 0) = some p := e1
    have e3 : bs[0] = 0 := by cases bs <;> simp at h0 ⊢; exact h0
    rw [e3] at e2
    refine AWP.sr [0, 19] (by simp [go_sem, hlen, h8', hp, e1', e2, B]; exact ⟨rfl, rfl⟩) ?_
    refine AWP.cond (by simp [go_sem]; rfl) (fun hc => ?_) (fun hc => by cases hc)
    refine AWP.sr [2, 3] (by simp [go_sem]; exact ⟨rfl, rfl⟩) ?_
    refine AWP.ret ?_
    simp [bodyQ, thn, inBlk, resA, go_sem, resV, readL_none (.inr h0)]
  rw [readL_some h8 h0]
  refine AWP.sr [0, 19] (s2 := ⟨35, [(0, v), (19, .bool false)]⟩) (h2 := h) ?_ ?_
  · by_cases hne : bs = []
    · subst hne
      simp [go_sem, hlen]
    · have hp : 0 < bs.length := List.length_pos_iff.2 hne
      obtain ⟨p, e1, e2⟩ := hv.get (P := Try.prog) (t := 24) (e := 5) Try.underlying24 agg5 tsz5 hp (kd := .i64)
      have e1' : indexAddrP Try.prog 24 v (.int .i64 0) = some p := e1
      have e3 : ¬ bs[0] = 0 := by cases bs <;> simp at h0 hne ⊢; exact h0
      have e3' : ¬ bs[0].toNat = 0 := by
        intro h; apply e3; rw [← UInt8.toNat_inj]; simpa using h
      simp [go_sem, hlen, h8', hp, e1', e2, B, e3, e3']
  refine AWP.cond (by simp [go_sem]; rfl) (fun hc => by cases hc) (fun hc => ?_)
  refine AWP.skip ?_
  simp only [thn, inBlk]
  refine AWP.sr [0, 4] (by simp [go_sem]; exact ⟨rfl, rfl⟩) ?_
  refine AWP.seq ?_
  refine AWP.sr [0, 4, 5] (by simp [go_sem]; exact ⟨rfl, rfl⟩) ?_
  refine AWP.block ?_
  refine AWP.loopR [0, 4, 5] (fun n s h' => ∃ i : Nat, i ≤ bs.length ∧ n = bs.length - i ∧ h' = h ∧ s = ⟨35, [(0, v), (4, .int .u64 (valL (bs.take i))), (5, .int .i64 i)]⟩) ?_ ?_
  · exact ⟨_, 0, by omega, rfl, rfl, by simp [go_sem, valL]⟩
  · rintro n s h' ⟨i, hi, rfl, rfl, rfl⟩
    refine AWP.seq ?_
    refine AWP.sr [0, 4, 5, 23] (by simp [go_sem, hlen]; exact ⟨rfl, rfl⟩) ?_
    refine AWP.cond (by simp [go_sem]; rfl) (fun hc => ?_) (fun hc => ?_)
    rotate_left
    · refine AWP.exit ?_   -- block 0
      simp only [thn, inBlk, if_true]
      have hi2 : i = bs.length := by simp at hc; omega
      subst hi2
      refine AWP.sr [2, 3] (by simp [go_sem]; exact ⟨rfl, rfl⟩) ?_
      refine AWP.ret ?_
      simp [bodyQ, thn, inBlk, resA, go_sem, resV]
    have hi2 : i < bs.length := by simpa using hc
    obtain ⟨p, e1, e2⟩ := hv.get (P := Try.prog) (t := 24) (e := 5) Try.underlying24 agg5 tsz5 hi2 (kd := .i64)
    refine AWP.skip ?_
    simp only [thn, inBlk]
    refine AWP.seq ?_
    refine AWP.block ?_
    have hb := bs[i].toNat_lt
    have hlt : valL (bs.take i) < 2 ^ 56 := by
      have := valL_lt (bs.take i)
      rw [List.length_take, Nat.min_eq_left hi] at this
      refine Nat.lt_of_lt_of_le this ?_
      exact Nat.le_trans (Nat.pow_le_pow_right (by omega) (show i ≤ 7 by omega)) (by decide)
    refine AWP.r [0, 4, 5] (by simp (disch := omega) [go_sem, e1, e2, B, wU64]; exact ⟨rfl, rfl⟩) (fun s' hs' => ?_)
    simp only [thn, inBlk]
    refine AWP.only [0, 4, 5] ?_
    rw [hs']
    refine AWP.r [0, 4, 5] (by simp (disch := omega) [go_sem, wI64]; exact ⟨rfl, rfl⟩) (fun s2 hs2 => ?_)
    refine ⟨bs.length - (i + 1), by omega, i + 1, by omega, rfl, rfl, hs2.trans ?_⟩
    rw [valL_take hi2]
    simp

theorem refNum_calls (h : AHeap) (n : Nat) (hn : n < 18446744073709551616) : ACalls Try.prog 14 #[.int .u64 n] h fun r h' => GB 5 h.next h' r (leL n).reverse ∧ Ext h h' := by
  refine ACalls.wf fun hb0 hn0 => ?_
  refine ACalls.of_awp (args := [.int .u64 n]) (n := 18) Try.func14 rfl rfl (by show 1 ≤ 18; omega) ?_
  refine AWP.sr [0] (by simp [go_sem]; exact ⟨rfl, rfl⟩) ?_
  refine AWP.sr [0, 3] (by simp [go_sem, buildSliceA, zeros, Instr.fill]; exact ⟨rfl, rfl⟩) ?_
  refine AWP.seq ?_
  refine AWP.sr [3, 4] (by simp [go_sem]; exact ⟨rfl, rfl⟩) ?_
  refine AWP.block ?_
  refine AWP.loopR [3, 4] (fun n' s h' => ∃ v bs, s = ⟨18, [(3, v), (4, .int .u64 n')]⟩ ∧ n' < 18446744073709551616 ∧ GB 5 h.next h' v bs ∧ Fr h.next h h' ∧ leL n = bs.reverse ++ leL n' ∧ bs.length + (leL n').length ≤ 8) ?_ ?_
  · refine ⟨n, _, [], by simp [go_sem], hn, .inr ⟨h.next, 0, [], true, rfl, Nat.le_refl _, Nat.lt_succ_self _, push_self _ _, by simp, by simp⟩, ((Ext.refl h).push _).fr (Nat.le_refl _), rfl, ?_⟩
    have := leL_length 8 n hn
    simpa using this
  · rintro m s h' ⟨v, bs, rfl, hm, hv, hfr, hle, hl8⟩
    refine AWP.seq ?_
    refine AWP.sr [3, 4, 8] (by simp [go_sem]; exact ⟨rfl, rfl⟩) ?_
    refine AWP.cond (by simp [go_sem]; rfl) (fun hc => ?_) (fun hc => ?_)
    rotate_left
    · refine AWP.exit ?_   -- block 0
      simp only [thn, inBlk, if_true]
      obtain rfl : m = 0 := by simpa using hc
      rw [leL_zero, List.append_nil] at hle
      refine AWP.sr [2] (by simp [go_sem]; exact ⟨rfl, rfl⟩) ?_
      refine AWP.ret ?_
      simp [bodyQ, thn, inBlk, resA, go_sem, resV]
      rw [hle, List.reverse_reverse]
      exact ⟨hv, hfr.ext⟩
    have hm0 : 0 < m := by simpa using hc
    refine AWP.skip ?_
    simp only [thn, inBlk]
    refine AWP.seq ?_
    refine AWP.block ?_
    rw [leL_pos hm0] at hle hl8
    simp at hl8
    have hb1 := hfr.base
    have hn1 := hfr.next
    have hw : IntKind.u8.wrap ((m : Int).tmod 256) = IntKind.u8.wrap m := by
      rw [IntKind.wrap_u8, IntKind.wrap_u8, Int.tmod_eq_emod_of_nonneg (by omega)]; omega
    have hg : GB 5 h.next (h'.push (.row [.int .u8 (IntKind.u8.wrap m)] 5 1 true false)) (.slice (some ⟨h'.next, 0, none⟩) 1 1) [UInt8.ofNat m] :=
      .inr ⟨h'.next, 0, _, true, rfl, hn1, Nat.lt_succ_self _, push_self _ _, by simp, by simp [B_ofNat]⟩
    obtain ⟨v', h2, e1, hv', hfr', _, _⟩ := GB.app (P := Try.prog) (t := 24) (xt := 24) (xv := v) (xs := bs)
      Try.underlying24 tsz5 tby5 tz5 nI24 hg (hv.ext ((Ext.refl h').push _)).src (by simp; omega) (by rw [push_base, hb1]; exact hb0) (by rw [push_next]; omega)
    refine AWP.r [3, 4] (by simp [go_sem, buildSliceA, zeros, Instr.fill, hw, e1]; exact ⟨rfl, rfl⟩) (fun s' hs' => ?_)
    simp only [thn, inBlk]
    refine AWP.only [3, 4] ?_
    rw [hs']
    refine AWP.r [3, 4] (by simp (disch := omega) [go_sem, wU64]; exact ⟨rfl, rfl⟩) (fun s2 hs2 => ?_)
    refine ⟨m / 256, by omega, v', [UInt8.ofNat m] ++ bs, hs2.trans ?_, by omega, hv', ?_, by simpa using hle, by simp; omega⟩
    · simp
    · exact (hfr.trans (((Ext.refl h').push _).fr hn1)).trans hfr'

abbrev F := Int × List UInt8
/-- A slice that reads as fields. -/
def Fields (h : AHeap) (v : Value) (fs : List F) : Prop := ∃ cs, Sl 2 h v fs.length cs ∧ ∀ j (hj : j < fs.length), ∃ fv, cs[j * 2]? = some (.int .i64 fs[j].1) ∧ cs[j * 2 + 1]? = some fv ∧ Bytes h fv fs[j].2

def encF (f : F) : List UInt8 := [UInt8.ofNat f.1.toNat, UInt8.ofNat (f.2.length / 256), UInt8.ofNat f.2.length] ++ f.2
def joinGo : List UInt8 → List F → List UInt8 × Int
  | acc, [] => (acc, 0)
  | acc, f :: fs => if f.1 < 1 ∨ 255 < f.1 then ([], 1) else if 65535 < f.2.length then ([], 23) else joinGo (acc ++ encF f) fs
def tot : List F → Nat
  | [] => 0
  | f :: fs => f.2.length + 3 + tot fs

theorem tsz46 : tsz Try.prog 46 = some 2 := by kernel_rfl
theorem tby46 : tby Try.prog 46 = some 32 := by kernel_rfl
theorem tz46 : tzero Try.prog 46 = some (.agg #[.int .i64 0, .slice none 0 0]) := by kernel_rfl
theorem tsz3 : tsz Try.prog 3 = some 1 := by kernel_rfl
theorem tsz24 : tsz Try.prog 24 = some 1 := by kernel_rfl
theorem agg46 : aggB Try.prog 46 = some true := by simp [aggB, Try.underlying46]
theorem agg24 : aggB Try.prog 24 = some false := by simp [aggB, Try.underlying24]
theorem nI29 : noInt Try.prog 29 = true := by simp [noInt, Try.underlying29]
attribute [local go_sem] tsz46 tby46 tz46 tsz3 tsz24 agg46 agg24 nI29

theorem tot_len : ∀ fs : List F, fs.length ≤ tot fs
  | [] => Nat.le_refl _
  | f :: fs => by have := tot_len fs; simp [tot]; omega

theorem join_calls (h : AHeap) (v : Value) (fs : List F) (hv : Fields h v fs) (hmax : tot fs ≤ 1000000) :
    ACalls Try.prog 17 #[v] h fun r h' => ∃ bv, r = .tuple #[bv, .int .i64 (joinGo [] fs).2] ∧ GB 5 h.next h' bv (joinGo [] fs).1 ∧ Ext h h' := by
  refine ACalls.wf fun hb0 hn0 => ?_
  obtain ⟨cs, hsl, hcs⟩ := hv
  have hfl := tot_len fs
  have hlen := hsl.len (P := Try.prog) Try.underlying29
  refine ACalls.of_awp (args := [v]) (n := 44) Try.func17 rfl rfl (by show 1 ≤ 44; omega) ?_
  refine AWP.sr [0, 2] (by simp [go_sem]; exact ⟨rfl, rfl⟩) ?_
  refine AWP.seq ?_
  refine AWP.sr [2, 7, 8, 9] (by simp [go_sem, hlen]; exact ⟨rfl, rfl⟩) ?_
  refine AWP.block ?_
  refine AWP.loopR [2, 7, 8, 9] (fun n s h' => ∃ (i : Nat) (o : Value) (bs : List UInt8), i ≤ fs.length ∧ n = fs.length - i ∧ s = ⟨44, [(2, o), (7, v), (8, .int .i64 fs.length), (9, .int .i64 i)]⟩ ∧
      GB 5 h.next h' o bs ∧ Ext h h' ∧ joinGo [] fs = joinGo bs (fs.drop i) ∧ bs.length + tot (fs.drop i) ≤ 1000000) ?_ ?_
  · exact ⟨_, 0, _, [], by omega, rfl, by simp [go_sem], GS.nil _ _ _ _, .refl _, rfl, by simpa using hmax⟩
  · rintro n s h' ⟨i, o, bs, hi, rfl, rfl, ho, hx, hj, hm⟩
    refine AWP.sr [2, 7, 8, 9, 10] (by simp [go_sem]; exact ⟨rfl, rfl⟩) ?_
    refine AWP.seq ?_
    refine AWP.cond (by simp [go_sem]; rfl) (fun hc => ?_) (fun hc => ?_)
    rotate_left
    · refine AWP.exit ?_   -- block 0
      simp only [thn, inBlk, if_true]
      have hi2 : i = fs.length := by simp at hc; omega
      rw [hi2, List.drop_length] at hj
      refine AWP.sr [2, 3] (by simp [go_sem]; exact ⟨rfl, rfl⟩) ?_
      refine AWP.ret ?_
      simp [bodyQ, thn, inBlk, resA, go_sem, resV]
      rw [hj]
      exact ⟨o, ⟨rfl, rfl⟩, ho, hx⟩
    have hi2 : i < fs.length := by simpa using hc
    rw [List.drop_eq_getElem_cons hi2] at hj hm
    generalize hf : fs[i] = f at hj hm
    obtain ⟨fv, c1, c2, hfv⟩ := hcs i hi2
    rw [hf] at c1 hfv
    obtain ⟨p, e1, e2⟩ := (hsl.ext hx).load (P := Try.prog) (t := 29) (e := 46) Try.underlying29 tsz46 agg46 hi2 (kd := .i64)
    have hcs2 : (cs.drop (i * 2)).take 2 = [.int .i64 f.1, fv] := by
      apply List.ext_getElem?
      intro k
      rw [List.getElem?_take, List.getElem?_drop]
      rcases k with _ | _ | k
      · simpa using c1
      · simpa using c2
      · rw [if_neg (by omega)]; simp
    rw [hcs2] at e2
    have hfv' := hfv.ext hx
    obtain ⟨a, cap, rfl⟩ := hfv.val
    refine AWP.skip ?_
    simp only [thn, inBlk]
    refine AWP.seq ?_
    refine AWP.block ?_
    have st : storeW Try.prog (h'.push (.row [.int .i64 0, .slice none 0 0] 46 2 true false)) 46 (.pointer (some ⟨h'.next, 0, none⟩)) (.agg #[.int .i64 f.1, .slice a f.2.length cap]) = some (h'.push (.row [.int .i64 f.1, .slice a f.2.length cap] 46 2 true false)) := by
      rw [storeW_row [.int .i64 f.1, .slice a f.2.length cap] rfl tsz46 (push_self _ _) (by simp) rfl rfl, push_set]; rfl
    refine AWP.sr [2, 5, 7, 8, 9] (by simp [go_sem, e1, e2, st]; exact ⟨rfl, rfl⟩) ?_
    refine AWP.sr [2, 5, 6, 7, 8, 9] (by simp [go_sem, fieldAddrP, loadR, lenE]; exact ⟨rfl, rfl⟩) ?_
    refine AWP.block ?_
    by_cases ht : f.1 < 1 ∨ 255 < f.1
    · have hjj : joinGo [] fs = ([], 1) := by rw [hj]; simp [joinGo, ht]
      refine AWP.sr [2, 5, 6, 7, 8, 9, 30] (s2 := ⟨44, [(2, o), (5, .pointer (some ⟨h'.next, 0, none⟩)), (6, .int .i64 f.2.length), (7, v), (8, .int .i64 fs.length), (9, .int .i64 i), (30, .bool true)]⟩) (h2 := h'.push (.row [.int .i64 f.1, .slice a f.2.length cap] 46 2 true false)) ?_ ?_
      · by_cases ht1 : f.1 < 1
        · simp [go_sem, fieldAddrP, loadR, ht1]
        · have ht2 : 255 < f.1 := by omega
          simp [go_sem, fieldAddrP, loadR, ht1, ht2]
      refine AWP.cond (by simp [go_sem]; rfl) (fun hc => ?_) (fun hc => by cases hc)
      refine AWP.sr [2, 3] (by simp [go_sem]; exact ⟨rfl, rfl⟩) ?_
      refine AWP.ret ?_
      simp [bodyQ, thn, inBlk, resA, go_sem, resV]
      rw [hjj]
      exact ⟨_, ⟨rfl, rfl⟩, GS.nil _ _ _ _, hx.push _⟩
    have ht1 : ¬ f.1 < 1 := by omega
    have ht2 : ¬ 255 < f.1 := by omega
    refine AWP.sr [2, 5, 6, 7, 8, 9, 30] (by simp [go_sem, fieldAddrP, loadR, ht1, ht2]; exact ⟨rfl, rfl⟩) ?_
    refine AWP.cond (by simp [go_sem]; rfl) (fun hc => by cases hc) (fun hc => ?_)
    refine AWP.sr [2, 5, 6, 7, 8, 9, 39] (by simp [go_sem]; exact ⟨rfl, rfl⟩) ?_
    refine AWP.cond (by simp [go_sem]; rfl) (fun hc => ?_) (fun hc => ?_)
    · have hc' : 65535 < f.2.length := by simp at hc; omega
      refine AWP.sr [2, 3] (by simp [go_sem]; exact ⟨rfl, rfl⟩) ?_
      refine AWP.ret ?_
      simp [bodyQ, thn, inBlk, resA, go_sem, resV]
      have hjj : joinGo [] fs = ([], 23) := by rw [hj]; simp [joinGo, ht, hc']
      rw [hjj]
      exact ⟨_, ⟨rfl, rfl⟩, GS.nil _ _ _ _, hx.push _⟩
    have hc' : ¬ 65535 < f.2.length := by simp at hc; omega
    have hb1 := hx.base
    have hn1 := hx.next
    generalize hh1 : h'.push (.row [.int .i64 f.1, .slice a f.2.length cap] 46 2 true false) = h1
    have x1 : Ext h' h1 := hh1 ▸ (Ext.refl h').push _
    have l1 : h1.next = h'.next + 1 := by rw [← hh1]; rfl
    have l2 : h1.obj h'.next = some (.row [.int .i64 f.1, .slice a f.2.length cap] 46 2 true false) := by rw [← hh1]; exact push_self _ _
    have hxs : (.int .u8 (IntKind.u8.wrap f.1)) = B (UInt8.ofNat f.1.toNat) := by rw [B_ofNat]; congr 2; omega
    have hxs2 : (.int .u8 (IntKind.u8.wrap ((f.2.length : Int).fdiv 256))) = B (UInt8.ofNat (f.2.length / 256)) := by
      rw [B_ofNat, Int.fdiv_eq_ediv_of_nonneg _ (by decide)]; rfl
    have hxs3 : (.int .u8 (IntKind.u8.wrap (f.2.length : Int))) = B (UInt8.ofNat f.2.length) := by rw [B_ofNat]
    have hm' : bs.length + (f.2.length + 3) + tot (fs.drop (i + 1)) ≤ 1000000 := by rw [tot] at hm; omega
    obtain ⟨v1, h3, ea, hv1, hfr1, hk1, _⟩ := GB.app (P := Try.prog) (t := 24) (xt := 24) (lo := h.next) (h := h1.push (.row [.int .u8 (IntKind.u8.wrap f.1), .int .u8 (IntKind.u8.wrap ((f.2.length : Int).fdiv 256)), .int .u8 (IntKind.u8.wrap (f.2.length : Int))] 5 1 true false))
      (v := o) (xv := .slice (some ⟨h1.next, 0, none⟩) 3 3) (bs := bs) (xs := [UInt8.ofNat f.1.toNat, UInt8.ofNat (f.2.length / 256), UInt8.ofNat f.2.length])
      Try.underlying24 tsz5 tby5 tz5 nI24 ((ho.ext x1).ext ((Ext.refl h1).push _)) (by simp [srcCells, go_sem, hxs, hxs2, hxs3]) (by simp; omega) (by rw [push_base, x1.base, hb1]; exact hb0) (by rw [push_next]; omega)
    have x3 : Ext h h3 := (((((hx.trans x1).push _).fr (Nat.le_refl _)).trans hfr1)).ext
    have k3 : h3.obj h'.next = some (.row [.int .i64 f.1, .slice a f.2.length cap] 46 2 true false) := by
      rw [hk1 h'.next (by rw [push_next]; omega) (fun e => by have := (ho.blk _ e).2; omega), push_old _ _ _ (by omega), l2]
    obtain ⟨v2, h4, eb, hv2, hfr2, _, _⟩ := GB.app (P := Try.prog) (t := 24) (xt := 24) (lo := h.next) (h := h3) (v := v1) (xv := .slice a f.2.length cap) (xs := f.2)
      Try.underlying24 tsz5 tby5 tz5 nI24 hv1 (hfv.ext x3).src (by simp; omega) (by rw [x3.base]; exact hb0) x3.next
    have x4 : Ext h h4 := ((x3.fr (Nat.le_refl _)).trans hfr2).ext
    have l2p : ∀ o, (h1.push o).obj h'.next = some (.row [.int .i64 f.1, .slice a f.2.length cap] 46 2 true false) := fun o => by rw [push_old _ _ _ (by omega), l2]
    refine AWP.draw hmix [.n 0 [2], .n 1 [5], .n 2 [17], .n 3 [18], .n 4 [6], .n 5 [20], .n 6 [21], .n 7 [6], .n 8 [23], .n 9 [19, 22, 24], .n 11 [5], .n 12 [27], .w 10 [16, 25] [12], .w 13 [26, 28] [], .n 14 [29]] (by kernel_rfl) ?_
    refine awpD_write 12 _ _ _ (by simp [go_sem, fieldAddrP, loadR, l2, buildSliceA, zeros, Instr.fill, l2p]; exact ⟨rfl, rfl, rfl⟩) rfl rfl rfl (by simp [go_sem]) (by simp [go_sem, ea]; exact ⟨rfl, rfl⟩) (by simp [still, go_sem, loadR, k3]) ?_
    refine awpD_write 0 _ _ _ (by simp [go_sem]; exact ⟨rfl, rfl, rfl⟩) rfl rfl rfl (by simp [go_sem]) (by simp [go_sem, eb]; exact ⟨rfl, rfl⟩) (by simp [still]) ?_
    refine awpD_rest (by simp [go_sem]; exact ⟨rfl, rfl, rfl⟩) ?_
    simp only [thn, inBlk]
    refine AWP.onlyE [2, 7, 8, 9] (by simp [go_sem]; rfl) ?_
    refine AWP.r [2, 7, 8, 9] (by simp (disch := omega) [go_sem, wI64]; exact ⟨rfl, rfl⟩) (fun s' hs' => ?_)
    refine ⟨_, by omega, i + 1, v2, _, by omega, rfl, hs', hv2, x4, ?_, ?_⟩
    · rw [hj]; simp [joinGo, ht, hc', encF]
    · simp; omega
end T1
