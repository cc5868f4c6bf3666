import Derived.Test.YtfdkdkhmblhehaaL01i
import Derived.Test.YtfdkdkhmblhehaaL01e
import Derived.Test.YtfdkdkhmblhehaaL01g
open Go Ab Go.Proofs
namespace T1
set_option autoImplicit false
set_option linter.unusedSimpArgs false
set_option linter.unusedVariables false
attribute [local go_sem] tsz5 tby5 tz5 nI24 Try.underlying24 Try.underlying5 agg5 agg3 Try.underlying3 Try.underlying4 Try.underlying23 Try.underlying32 Try.underlying9 Try.underlying46 Try.underlying29 Try.underlying45 tsz46 tby46 tz46 tsz3 tsz24 agg46 agg24 nI29

/-- What is left of fields that are spoilt: rows that may be written, and bytes. -/
def Sp (lo hi : Nat) (h : AHeap) (v : Value) (n : Nat) : Prop := ∃ cs, GS 46 2 lo h v n cs ∧ (∀ x, blkOf v = some x → x < hi) ∧ ∀ j, j < n → ∃ fv bs, cs[j * 2 + 1]? = some fv ∧ OBytes 5 lo h fv bs ∧ bs.length ≤ 1000000 ∧ ∀ x, blkOf fv = some x → x < hi

/-- Only from lo on, and below hi, has anything turned. -/
structure Fb (lo hi : Nat) (h h' : AHeap) : Prop where
  fr : Fr lo h h'
  up : ∀ i, hi ≤ i → h'.obj i = h.obj i
theorem Fb.refl (lo hi : Nat) (h : AHeap) : Fb lo hi h h := ⟨.refl _ _, fun _ _ => rfl⟩
theorem Fb.trans {lo hi : Nat} {a b c : AHeap} (h : Fb lo hi a b) (k : Fb lo hi b c) : Fb lo hi a c := ⟨h.fr.trans k.fr, fun i hi => (k.up i hi).trans (h.up i hi)⟩
theorem Fb.set {lo hi i : Nat} {h : AHeap} {o : AObj} (h1 : lo ≤ i) (h2 : i < hi) : Fb lo hi h (h.set i o) := ⟨⟨Nat.le_refl _, rfl, fun x hx => set_ne _ _ _ _ (by omega)⟩, fun x hx => set_ne _ _ _ _ (by omega)⟩

theorem set_byte {lo i p : Nat} {h : AHeap} {v : Value} {bs : List UInt8} {c : List Value} {ti : Bool} {u : UInt8} (k : OBytes 5 lo h v bs) (ho : h.obj i = some (.row c 5 1 ti false)) :
    ∃ bs', OBytes 5 lo (h.set i (.row (c.set p (B u)) 5 1 ti false)) v bs' ∧ bs'.length = bs.length := by
  rcases k with ⟨rfl, rfl⟩ | ⟨j, off, cap, c', ti', rfl, h1, h2, h3, h4, h5, h6⟩
  · exact ⟨[], .inl ⟨rfl, rfl⟩, rfl⟩
  · by_cases hj : j = i
    · subst hj
      rw [ho] at h4
      cases h4
      by_cases hp : p < off
      · refine ⟨bs, .inr ⟨j, off, cap, _, ti, rfl, h1, h2, h3, set_self _ _ _, by simpa using h5, ?_⟩, rfl⟩
        rw [List.drop_set, if_pos hp]; exact h6
      · refine ⟨bs.set (p - off) u, .inr ⟨j, off, cap, _, ti, by rw [List.length_set], by rw [List.length_set]; exact h1, h2, h3, set_self _ _ _, by rw [List.length_set, List.length_set]; exact h5, ?_⟩, List.length_set⟩
        rw [List.drop_set, if_neg hp, List.length_set, List.take_set, h6, List.map_set]
    · exact ⟨bs, .inr ⟨j, off, cap, c', ti', rfl, h1, h2, h3, by rw [set_ne _ _ _ _ hj]; exact h4, h5, h6⟩, rfl⟩

theorem spoil_calls (h : AHeap) (lo hi : Nat) (v : Value) (n : Nat) (hv : Sp lo hi h v n) (hn : n ≤ 1000000) :
    ACalls Try.prog 22 #[v] h fun r h' => Fb lo hi h h' := by
  refine ACalls.wf fun hb0 hn0 => ?_
  obtain ⟨cs0, hg0, hv0, els0⟩ := hv
  have hlen := hg0.sl.len (P := Try.prog) Try.underlying29
  refine ACalls.of_awp (args := [v]) (n := 31) Try.func22 rfl rfl (by show 1 ≤ 31; omega) ?_
  refine AWP.sr [0, 5, 6] (by simp [go_sem, hlen]; exact ⟨rfl, rfl⟩) ?_
  refine AWP.block ?_
  refine AWP.loopR [0, 5, 6] (fun m s h' => ∃ i : Nat, i ≤ n ∧ m = n - i ∧ s = ⟨31, [(0, v), (5, .int .i64 n), (6, .int .i64 i)]⟩ ∧ Sp lo hi h' v n ∧ Fb lo hi h h') ?_ ?_
  · exact ⟨_, 0, by omega, rfl, by simp [go_sem], ⟨cs0, hg0, hv0, els0⟩, .refl _ _ _⟩
  · rintro m s h1 ⟨i, hile, rfl, rfl, hsp, fr⟩
    refine AWP.sr [0, 5, 6, 7] (by simp [go_sem]; exact ⟨rfl, rfl⟩) ?_
    refine AWP.seq ?_
    refine AWP.cond (by simp [go_sem]; rfl) (fun hc => ?_) (fun hc => ?_)
    rotate_left
    · refine AWP.exit ?_   -- block 0
      simp [bodyQ, thn, inBlk, resA, go_sem, resV]
      exact fr
    have hi2 : i < n := by simpa using hc
    refine AWP.skip ?_
    simp only [thn, inBlk]
    refine AWP.seq ?_
    refine AWP.block ?_
    refine AWP.sr [0, 2, 5, 6] (by simp [go_sem]; exact ⟨rfl, rfl⟩) ?_
    refine AWP.seq ?_
    obtain ⟨cs, hg, hv1, els⟩ := hsp
    obtain ⟨fv, bs, c1, ob, hbl, hfv⟩ := els i hi2
    obtain ⟨ix, ox, cx, ex, szx, tix, rox, ax, bl, ltx, ox1, cx1⟩ := hg.sl.cell (P := Try.prog) (t := 29) (e := 46) Try.underlying29 tsz46 hi2 (f := 1) (by omega) (kd := .i64) c1
    have hl14 := ob.bytes.len (P := Try.prog) Try.underlying24
    refine AWP.sr [0, 2, 5, 6, 14, 15] (s2 := ⟨31, [(0, v), (2, .int .i64 i), (5, .int .i64 n), (6, .int .i64 i), (14, .int .i64 bs.length), (15, .int .i64 0)]⟩) (h2 := h1) ?_ ?_
    · simp [go_sem, ax, fieldAddrP, loadR, ox1, cx1, hl14]
    refine AWP.block ?_
    -- a byte row has turned at most
    refine AWP.loopR [0, 2, 5, 6, 14, 15] (fun m s h' => ∃ k : Nat, ∃ bs', k ≤ bs.length ∧ m = bs.length - k ∧ s = ⟨31, [(0, v), (2, .int .i64 i), (5, .int .i64 n), (6, .int .i64 i), (14, .int .i64 bs.length), (15, .int .i64 k)]⟩ ∧ Sp lo hi h' v n ∧ Fb lo hi h h' ∧
        GS 46 2 lo h' v n cs ∧ OBytes 5 lo h' fv bs' ∧ bs'.length = bs.length) ?_ ?_
    · exact ⟨_, 0, bs, by omega, rfl, by simp [go_sem], ⟨cs, hg, hv1, els⟩, fr, hg, ob, rfl⟩
    · rintro m s h2 ⟨k, bs', hk, rfl, rfl, hsp2, fr2, hg2, ob2, hbl2⟩
      refine AWP.sr [0, 2, 5, 6, 14, 15, 16] (by simp [go_sem]; exact ⟨rfl, rfl⟩) ?_
      refine AWP.seq ?_
      refine AWP.cond (by simp [go_sem]; rfl) (fun hc => ?_) (fun hc => ?_)
      rotate_left
      · refine AWP.exit ?_   -- block 2
        simp only [thn, inBlk, if_true]
        obtain ⟨cs2, hgs, hv2, els2⟩ := hsp2
        have hgs' := hgs
        have hll := hgs.length
        rcases hgs with ⟨rfl, rfl, _⟩ | ⟨b, off, c, ti, rfl, q1, q2, q3, q4, q5⟩
        · omega
        have ia : indexAddrP Try.prog 29 (.slice (some ⟨b, off, none⟩) n n) (.int .i64 i) = some (.pointer (some ⟨b, off + i * 2, none⟩)) := by
          simp [indexAddrP, go_sem]; omega
        have st : storeW Try.prog h2 3 (.pointer (some ⟨b, off + i * 2, none⟩)) (.int .i64 0) = some (h2.set b (.row (c.set (off + i * 2) (.int .i64 0)) 46 2 ti false)) := storeW_cell tsz3 q3 (by omega) rfl rfl rfl
        refine AWP.r [0, 5, 6] (by simp [go_sem, ia, fieldAddrP, st]; exact ⟨rfl, rfl⟩) (fun s' hs' => ?_)
        simp only [thn, inBlk]
        refine AWP.only [0, 5, 6] ?_
        rw [hs']
        refine AWP.r [0, 5, 6] (by simp (disch := omega) [go_sem, wI64]; exact ⟨rfl, rfl⟩) (fun s2 hs2 => ?_)
        refine ⟨_, by omega, i + 1, by omega, rfl, hs2, ⟨cs2.set (i * 2) (.int .i64 0), .inr ⟨b, off, _, ti, rfl, q1, q2, set_self _ _ _, by simpa using q4, ?_⟩, hv2, fun y hy => ?_⟩, fr2.trans (Fb.set q1 (hv2 b rfl))⟩
        · rw [List.drop_set, if_neg (by omega), List.take_set, q5]
          congr 1; omega
        · obtain ⟨fv', b', z1, z2, z3, z6⟩ := els2 y hy
          refine ⟨fv', b', ?_, ?_, z3, z6⟩
          · rw [List.getElem?_set, if_neg (by omega)]; exact z1
          · refine z2.keep (Nat.le_refl _) fun x c3 ti3 hx hbx hob => set_ne _ _ _ _ ?_
            rintro rfl
            rw [q3] at hob
            cases hob
      have hk2 : k < bs.length := by simpa using hc
      obtain ⟨ix, ox, cx, ex, szx, tix, rox, ax, bl, ltx, ox1, cx1⟩ := hg2.sl.cell (P := Try.prog) (t := 29) (e := 46) Try.underlying29 tsz46 hi2 (f := 1) (by omega) (kd := .i64) c1
      refine AWP.skip ?_
      simp only [thn, inBlk]
      refine AWP.seq ?_
      refine AWP.block ?_
      refine AWP.sr [0, 2, 3, 5, 6, 14, 15] (by simp [go_sem]; exact ⟨rfl, rfl⟩) ?_
      have ob3 := ob2
      rcases ob2 with ⟨rfl, rfl⟩ | ⟨j, off, cap, c', ti', rfl, q1, q2, q3, q4, q5, q6⟩
      · simp at hbl2; omega
      have ia : indexAddrP Try.prog 24 (.slice (some ⟨j, off, none⟩) bs'.length cap) (.int .i64 k) = some (.pointer (some ⟨j, off + k, none⟩)) := by
        simp [indexAddrP, go_sem]; omega
      have st : storeW Try.prog h2 5 (.pointer (some ⟨j, off + k, none⟩)) (.int .u8 238) = some (h2.set j (.row (c'.set (off + k) (B 238)) 5 1 ti' false)) := storeW_cell tsz5 q4 (by omega) rfl rfl rfl
      refine AWP.r [0, 2, 5, 6, 14, 15] (by simp [go_sem, ax, fieldAddrP, loadR, ox1, cx1, ia, st]; exact ⟨rfl, rfl⟩) (fun s' hs' => ?_)
      simp only [thn, inBlk]
      refine AWP.only [0, 2, 5, 6, 14, 15] ?_
      rw [hs']
      refine AWP.r [0, 2, 5, 6, 14, 15] (by simp (disch := omega) [go_sem, wI64]; exact ⟨rfl, rfl⟩) (fun s2 hs2 => ?_)
      obtain ⟨bs3, ob4, hl4⟩ := set_byte (p := off + k) (u := 238) ob3 q4
      have hkeep : ∀ x, x < h2.next → blkOf v = some x → (h2.set j (.row (c'.set (off + k) (B 238)) 5 1 ti' false)).obj x = h2.obj x := by
        intro x hx hbx
        refine set_ne _ _ _ _ ?_
        rintro rfl
        rcases hg2 with ⟨rfl, _⟩ | ⟨i', off', c'', ti'', rfl, y1, y2, y3, _⟩
        · cases hbx
        · cases hbx
          rw [y3] at q4
          cases q4
      obtain ⟨cs2, hgs, hv2, els2⟩ := hsp2
      refine ⟨_, by omega, k + 1, bs3, by omega, rfl, hs2, ⟨cs2, hgs.keep (Nat.le_refl _) hkeep, hv2, fun y hy => ?_⟩, fr2.trans (Fb.set q2 (hfv j rfl)), hg2.keep (Nat.le_refl _) hkeep, ob4, by omega⟩
      obtain ⟨fv', b', z1, z2, z3, z6⟩ := els2 y hy
      obtain ⟨b'', z4, z5⟩ := set_byte (p := off + k) (u := 238) z2 q4
      exact ⟨fv', b'', z1, z4, by omega, z6⟩
end T1
