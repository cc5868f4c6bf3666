import Derived.Test.YtomcliklmfkaoaaL15f
import Derived.Test.YtomcliklmfkaoaaAbWalk3
open Go Ab Go.Proofs
namespace L15
set_option autoImplicit false
set_option linter.unusedSimpArgs false
set_option linter.unusedVariables false

/-! ### The document's parts -/
def tbl (g : UInt8 → Bool) : List Value := (List.range 256).map fun i => .bool (g (UInt8.ofNat i))
def rec (g : UInt8 → Bool) (r p : Bool) (b : UInt8) : List Value := .bool r :: (tbl g ++ [.bool p, .int .u8 b.toNat])
theorem tbl_len (g : UInt8 → Bool) : (tbl g).length = 256 := by simp [tbl]
theorem tbl_at (g : UInt8 → Bool) {i : Nat} (h : i < 256) : (tbl g)[i]? = some (.bool (g (UInt8.ofNat i))) := by
  simp [tbl, h]
section
variable {g : UInt8 → Bool} {r p : Bool} {b : UInt8}
theorem rec_len : (rec g r p b).length = 259 := by simp [rec, tbl_len]
theorem rec_0 : (rec g r p b)[0]? = some (.bool r) := rfl
theorem rec_in {i : Nat} (h : i < 256) : (rec g r p b)[1 + i]? = some (.bool (g (UInt8.ofNat i))) := by
  rw [Nat.add_comm]
  show (tbl g ++ _)[i]? = _
  rw [List.getElem?_append_left (by rw [tbl_len]; exact h), tbl_at g h]
theorem rec_257 : (rec g r p b)[257]? = some (.bool p) := by
  show (tbl g ++ _)[256]? = _
  rw [List.getElem?_append_right (by rw [tbl_len]; omega), tbl_len]; rfl
theorem rec_258 : (rec g r p b)[258]? = some (.int .u8 b.toNat) := by
  show (tbl g ++ _)[257]? = _
  rw [List.getElem?_append_right (by rw [tbl_len]; omega), tbl_len]; rfl
theorem rec_take : (rec g r p b).take 259 = rec g r p b := List.take_of_length_le (by rw [rec_len]; omega)
theorem rec_set0 {x : Bool} : (rec g r p b).set 0 (.bool x) = rec g x p b := rfl
theorem rec_set {i : Nat} {x : Bool} (h : i < 256) : (rec g r p b).set (1 + i) (.bool x) = rec (fun c => if c.toNat = i then x else g c) r p b := by
  apply List.ext_getElem?
  intro m
  rw [List.getElem?_set]
  by_cases hm : 1 + i = m
  · subst hm
    rw [if_pos rfl, if_pos (by rw [rec_len]; omega), rec_in h]
    have : (UInt8.ofNat i).toNat = i := by simp; omega
    simp [this]
  · rw [if_neg hm]
    cases m with
    | zero => rfl
    | succ m =>
      by_cases h2 : m < 256
      · rw [Nat.add_comm m 1, rec_in h2, rec_in h2]
        have : (UInt8.ofNat m).toNat = m := by simp; omega
        rw [this, if_neg (by omega)]
      · by_cases h3 : m = 256
        · subst h3; rw [rec_257, rec_257]
        · by_cases h4 : m = 257
          · subst h4; rw [rec_258, rec_258]
          · rw [List.getElem?_eq_none (by rw [rec_len]; omega), List.getElem?_eq_none (by rw [rec_len]; omega)]
theorem rec_set257 {x : Bool} : (rec g r p b).set 257 (.bool x) = rec g r x b := by
  unfold rec
  rw [List.set_cons_succ, List.set_append_right _ _ (by rw [tbl_len]; omega), tbl_len]; rfl
theorem rec_set258 {x : UInt8} : (rec g r p b).set 258 (.int .u8 x.toNat) = rec g r p x := by
  unfold rec
  rw [List.set_cons_succ, List.set_append_right _ _ (by rw [tbl_len]; omega), tbl_len]; rfl
theorem rec_ok : (rec g r p b).all okCell = true := by
  simp [rec, tbl, okCell]
  exact ⟨⟨rfl, rfl⟩, fun x _ => ⟨rfl, rfl⟩, ⟨rfl, rfl⟩, rfl, rfl⟩
theorem rec_const : (rec g r p b).all constCell = true := by
  simp [rec, tbl, constCell]
end
abbrev zrec : List Value := rec (fun _ => false) false false 0
theorem tz47 : tzero Try.prog 47 = some (.agg zrec.toArray) := by kernel_rfl
theorem okAll_all : ∀ l : List Value, okAll l = l.all okCell
  | [] => rfl
  | v :: l => by rw [okAll, okAll_all l]; rfl
theorem rec_okAll {g : UInt8 → Bool} {r p : Bool} {b : UInt8} : okAll (rec g r p b) = true := by rw [okAll_all]; exact rec_ok
theorem rec_setL {g g' : UInt8 → Bool} {r p r' p' : Bool} {b b' : UInt8} : setL (rec g r p b) 0 (rec g' r' p' b') = rec g' r' p' b' := by
  simpa using setL_full (rec g' r' p' b') [] (rec g r p b) (by rw [rec_len, rec_len])
theorem allocZ (id : Nat) : allocA Try.prog id 47 = some (.pointer (some ⟨id, 0, none⟩), .row zrec 47 259 true false) := by
  have h1 : constOk (.agg zrec.toArray) = true := by simp only [constOk]; exact rec_const
  have h2 : (Value.agg zrec.toArray).known = true := rfl
  have h3 : (Value.agg zrec.toArray).cells.toList = zrec := by simp [Value.cells]
  have h4 : (Value.agg zrec.toArray).cells.size = 259 := by simp only [Value.cells, List.size_toArray]; exact rec_len
  simp only [allocA, tz47, h1, if_true, boxA, h2, h3, h4]
theorem buildZ : buildP Try.prog 47 [] = some (.agg zrec.toArray) := by
  rw [buildP_nil]
  have h1 : (Value.agg zrec.toArray).cells.size = 259 := by simp only [Value.cells, List.size_toArray]; exact rec_len
  have h3 : (Value.agg zrec.toArray).cells.toList = zrec := by simp [Value.cells]
  have h1' : constOk (.agg zrec.toArray) = true := by simp only [constOk]; exact rec_const
  simp only [tz47, tsz47, Try.underlying47]
  simp
  exact ⟨h1', ⟨rfl, rfl, rfl, rfl⟩, rfl⟩
attribute [irreducible] rec
attribute [local go_sem] rec_okAll rec_setL rec_len rec_take rec_0 rec_257 rec_258 rec_ok rec_set0 rec_set257 rec_set258

theorem at_nil {s : List UInt8} {a : Nat} (h : s.drop a = []) : ¬ (a : Int) < s.length := by
  have := List.drop_eq_nil_iff.1 h; omega
theorem at_cons {s t : List UInt8} {a : Nat} {c : UInt8} (h : s.drop a = c :: t) : (a : Int) < s.length ∧ indexP Try.prog 9 (.string ⟨s.toArray⟩) (.int .i64 a) = some (.int .u8 c.toNat) ∧ s.drop (a + 1) = t ∧ a + 1 ≤ s.length := by
  have hlt : a < s.length := by
    refine Nat.lt_of_not_le fun hle => ?_
    rw [List.drop_of_length_le hle] at h; cases h
  rw [List.drop_eq_getElem_cons hlt] at h
  injection h with h1 h2
  refine ⟨by omega, ?_, h2, hlt⟩
  rw [← h1]
  exact str_index Try.underlying9 hlt
theorem wnat {n : Nat} (h : n ≤ 1000000) : IntKind.i64.wrap ((n : Int) + 1) = ((n + 1 : Nat) : Int) := by rw [wI64 (by omega) (by omega)]; omega


set_option maxHeartbeats 8000000 in
theorem refClass_calls {O : Old} {h : AHeap} {R : List Chunk} {s : List UInt8} {at_ : Nat} (k : Own O h R) (hl : s.length ≤ 1000) (ha : at_ ≤ s.length) :
    ACalls Try.prog 18 #[.string ⟨s.toArray⟩, .int .i64 at_] h fun v h' => Own O h' R ∧ match cls (s.drop at_) with
      | none => ∃ g, v = .tuple #[.agg (rec g false false 0).toArray, .int .i64 0, .bool false]
      | some (p, r) => ∃ at2, at2 ≤ s.length ∧ r = s.drop at2 ∧ v = .tuple #[.agg (rec (fits p) false false 0).toArray, .int .i64 at2, .bool true] := by
  refine ACalls.of_awp (args := [.string ⟨s.toArray⟩, .int .i64 at_]) (n := 127) Try.func18 rfl rfl (by show 2 ≤ 127; omega) ?_
  have k1 := k.push (.row zrec 47 259 true false)
  have k2 := k1.push (.row zrec 47 259 true false)
  have k2s := k2.set (.row zrec 47 259 true false)
  generalize hL0 : s.drop at_ = L0 at *
  refine AWP.seq ?_
  (apply AWP.rE; (focus (simp [go_sem, ↓allocZ]; exact ⟨rfl, rfl⟩)); try dsimp only [thn, inBlk])
  refine AWP.seq ?_
  (apply AWP.rE; (focus (simp [go_sem, ↓allocZ, ↓buildZ]; exact ⟨rfl, rfl⟩)); try dsimp only [thn, inBlk])
  refine AWP.cut [0, 1, 4, 7, 8, 9] (fun s' h' => ∃ a2, a2 ≤ s.length ∧ s.drop a2 = (bang L0).2 ∧ s' = ⟨127, [(0, .string ⟨s.toArray⟩), (1, .int .i64 (a2 : Nat)), (4, .pointer (some ⟨h.next, 0, none⟩)), (7, .pointer (some ⟨h.next + 1, 0, none⟩)), (8, .bool (bang L0).1), (9, .int .i64 0)]⟩ ∧
    Own O h' (cell (h.next + 1) (.row zrec 47 259 true false) :: cell h.next (.row zrec 47 259 true false) :: R)) ?_ ?_
  · match L0, hL0 with
    | [], hL0 =>
      have i0 := at_nil hL0
      (repeat' first
        | refine AWP.seq ?_
        | refine AWP.block ?_
        | (refine AWP.skip ?_; try dsimp only [thn, inBlk])
        | (refine AWP.exit ?_; try simp only [thn, inBlk, if_true, reduceIte, Nat.reduceEqDiff])
        | (refine AWP.ret ?_; try dsimp only [thn, inBlk])
        | (refine AWP.condT ?_ ?_; (focus (simp [go_sem, i0]; done)))
        | (refine AWP.condF ?_ ?_; (focus (simp [go_sem, i0]; done)))
        | (apply AWP.rE; (focus (simp [go_sem, i0]; exact ⟨rfl, rfl⟩)); try dsimp only [thn, inBlk])
        | fail)
      exact ⟨at_, ha, hL0, by simp [go_sem, bang], k2s⟩
    | c :: t, hL0 =>
      obtain ⟨i0, i1, i2, i3⟩ := at_cons hL0
      by_cases hc : c = 33
      · have hc' : ((c.toNat : Int) == 33) = true := by rw [hc]; rfl
        have wa := wnat (n := at_) (by omega)
        have hb : bang (c :: t) = (true, t) := by simp [bang, hc]
        rw [hb]
        (repeat' first
          | refine AWP.seq ?_
          | refine AWP.block ?_
          | (refine AWP.skip ?_; try dsimp only [thn, inBlk])
          | (refine AWP.exit ?_; try simp only [thn, inBlk, if_true, reduceIte, Nat.reduceEqDiff])
          | (refine AWP.ret ?_; try dsimp only [thn, inBlk])
          | (refine AWP.condT ?_ ?_; (focus (simp [go_sem, i0, i1, hc', wa]; done)))
          | (refine AWP.condF ?_ ?_; (focus (simp [go_sem, i0, i1, hc', wa]; done)))
          | (apply AWP.rE; (focus (simp [go_sem, i0, i1, hc', wa]; exact ⟨rfl, rfl⟩)); try dsimp only [thn, inBlk])
          | fail)
        exact ⟨at_ + 1, i3, i2, by simp [go_sem], k2s⟩
      · have hc' : ((c.toNat : Int) == 33) = false := neI (d := 33) hc
        have hb : bang (c :: t) = (false, c :: t) := by simp [bang, hc]
        rw [hb]
        (repeat' first
          | refine AWP.seq ?_
          | refine AWP.block ?_
          | (refine AWP.skip ?_; try dsimp only [thn, inBlk])
          | (refine AWP.exit ?_; try simp only [thn, inBlk, if_true, reduceIte, Nat.reduceEqDiff])
          | (refine AWP.ret ?_; try dsimp only [thn, inBlk])
          | (refine AWP.condT ?_ ?_; (focus (simp [go_sem, i0, i1, hc']; done)))
          | (refine AWP.condF ?_ ?_; (focus (simp [go_sem, i0, i1, hc']; done)))
          | (apply AWP.rE; (focus (simp [go_sem, i0, i1, hc']; exact ⟨rfl, rfl⟩)); try dsimp only [thn, inBlk])
          | fail)
        exact ⟨at_, ha, hL0, by simp [go_sem], k2s⟩
  rintro s' h2 ⟨a2, ha2, hd2, rfl, k3⟩
  have hcls : cls L0 = match clsGo (bang L0).2 with
    | none => none
    | some (rs, r) => if r = [] ∨ rs = [] then none else some (⟨2, rs, (bang L0).1⟩, r.tail) := rfl
  generalize hL1 : (bang L0).2 = L1 at *
  generalize (bang L0).1 = ng at *
  refine AWP.seq ?_
  (repeat' first
    | refine AWP.seq ?_
    | refine AWP.block ?_
    | (refine AWP.skip ?_; try dsimp only [thn, inBlk])
    | (refine AWP.exit ?_; try simp only [thn, inBlk, if_true, reduceIte, Nat.reduceEqDiff])
    | (refine AWP.ret ?_; try dsimp only [thn, inBlk])
    | (apply AWP.rE; (focus (simp [go_sem]; exact ⟨rfl, rfl⟩)); try dsimp only [thn, inBlk])
    | fail)
  refine AWP.loopR [0, 1, 4, 7, 8, 9] (fun m s' h' => ∃ l a3 acc, s.drop a3 = l ∧ a3 ≤ s.length ∧ m = l.length ∧ clsGo L1 = (clsGo l).map (fun q => (acc ++ q.1, q.2)) ∧ acc.length + l.length ≤ 1000 ∧
    s' = ⟨127, [(0, .string ⟨s.toArray⟩), (1, .int .i64 (a3 : Nat)), (4, .pointer (some ⟨h.next, 0, none⟩)), (7, .pointer (some ⟨h.next + 1, 0, none⟩)), (8, .bool ng), (9, .int .i64 acc.length)]⟩ ∧
    Own O h' (cell (h.next + 1) (.row (rec (fun c => acc.any (hit · c)) false false 0) 47 259 true false) :: cell h.next (.row zrec 47 259 true false) :: R)) ?_ ?_
  · refine ⟨_, L1, a2, [], hd2, ha2, rfl, by cases clsGo L1 <;> simp, ?_, by simp [go_sem], k3⟩
    rw [← hd2]; simp; omega
  rintro m s' h3 ⟨l, at3, acc, hd3, ha3, rfl, hgo, hac, rfl, kt⟩
  match e : stp l with
  | .stop =>
    rw [clsGo_stop e] at hgo
    simp only [Option.map_some, List.append_nil] at hgo
    rw [hgo] at hcls
    simp only at hcls
    have c0 := kt.obj
    have c1 := kt.b1.obj
    have kf := kt.b1.set (.row (rec (fun c => acc.any (hit · c)) false false 0) 47 259 true false)
    have hl : l = [] ∨ ∃ c t, l = c :: t ∧ c = 93 := by
      unfold stp at e
      split at e
      · exact .inl rfl
      · rename_i c t
        split at e
        · rename_i hc; exact .inr ⟨c, t, rfl, hc⟩
        · repeat' split at e
          all_goals cases e
    rcases hl with rfl | ⟨c, t, rfl, hc⟩
    · have i0 := at_nil hd3
      have i1 : (s.length : Int) ≤ at3 := by omega
      rw [if_pos (.inl rfl)] at hcls
      rw [hcls]
      (repeat' first
        | refine AWP.seq ?_
        | refine AWP.block ?_
        | (refine AWP.skip ?_; try dsimp only [thn, inBlk])
        | (refine AWP.exit ?_; try simp only [thn, inBlk, if_true, reduceIte, Nat.reduceEqDiff])
        | (refine AWP.ret ?_; try dsimp only [thn, inBlk])
        | (refine AWP.condT ?_ ?_; (focus (simp [go_sem, i0,i1, c0, c1]; done)))
        | (refine AWP.condF ?_ ?_; (focus (simp [go_sem, i0,i1, c0, c1]; done)))
        | (apply AWP.rE; (focus (simp [go_sem, i0,i1, c0, c1]; exact ⟨rfl, rfl⟩)); try dsimp only [thn, inBlk])
        | fail)
      simp [bodyQ, thn, inBlk, resA, resV, go_sem]
      exact ⟨kf.tail.tail, _, rfl⟩
    · obtain ⟨i0, i1, i2, i3⟩ := at_cons hd3
      have hc' : ((c.toNat : Int) != 93) = false := by rw [hc]; rfl
      have i4 : ¬ (s.length : Int) ≤ at3 := by omega
      by_cases ha0 : acc = []
      · rw [if_pos (.inr ha0)] at hcls
        rw [hcls]
        have i5 : acc.length = 0 := by rw [ha0]; rfl
        (repeat' first
          | refine AWP.seq ?_
          | refine AWP.block ?_
          | (refine AWP.skip ?_; try dsimp only [thn, inBlk])
          | (refine AWP.exit ?_; try simp only [thn, inBlk, if_true, reduceIte, Nat.reduceEqDiff])
          | (refine AWP.ret ?_; try dsimp only [thn, inBlk])
          | (refine AWP.condT ?_ ?_; (focus (simp [go_sem, i0,i1,i4,i5,hc', c0, c1]; done)))
          | (refine AWP.condF ?_ ?_; (focus (simp [go_sem, i0,i1,i4,i5,hc', c0, c1]; done)))
          | (apply AWP.rE; (focus (simp [go_sem, i0,i1,i4,i5,hc', c0, c1]; exact ⟨rfl, rfl⟩)); try dsimp only [thn, inBlk])
          | fail)
        simp [bodyQ, thn, inBlk, resA, resV, go_sem]
        exact ⟨kf.tail.tail, _, rfl⟩
      · rw [if_neg (by simp [ha0])] at hcls
        rw [hcls]
        have i5 : ¬ acc.length = 0 := by simpa using ha0
        have i6 : ((acc.length : Int) == 0) = false := by simp; omega
        have w3 := wnat (n := at3) (by omega)
        (repeat' first
          | refine AWP.seq ?_
          | refine AWP.block ?_
          | (refine AWP.skip ?_; try dsimp only [thn, inBlk])
          | (refine AWP.exit ?_; try simp only [thn, inBlk, if_true, reduceIte, Nat.reduceEqDiff])
          | (refine AWP.ret ?_; try dsimp only [thn, inBlk])
          | (refine AWP.condT ?_ ?_; (focus (simp [go_sem, i0, i1, i4, i5, i6, hc']; done)))
          | (refine AWP.condF ?_ ?_; (focus (simp [go_sem, i0, i1, i4, i5, i6, hc']; done)))
          | (apply AWP.rE; (focus (simp [go_sem, i0, i1, i4, i5, i6, hc']; exact ⟨rfl, rfl⟩)); try dsimp only [thn, inBlk])
          | fail)
        refine AWP.loopR [1, 4, 7, 8, 13] (fun m s' h'' => ∃ x : Nat, x ≤ 256 ∧ m = 256 - x ∧ (ng = false → x = 0) ∧ s' = ⟨127, [(1, .int .i64 (at3 : Nat)), (4, .pointer (some ⟨h.next, 0, none⟩)), (7, .pointer (some ⟨h.next + 1, 0, none⟩)), (8, .bool ng), (13, .int .i64 x)]⟩ ∧
          Own O h'' (cell (h.next + 1) (.row (rec (fun c => if c.toNat < x then !acc.any (hit · c) else acc.any (hit · c)) false false 0) 47 259 true false) :: cell h.next (.row zrec 47 259 true false) :: R)) ?_ ?_
        · exact ⟨_, 0, by omega, rfl, fun _ => rfl, by simp [go_sem], by simpa using kt⟩
        rintro m s' h'' ⟨x, hx1, rfl, hx2, rfl, kx⟩
        cases ng with
        | false =>
          obtain rfl := hx2 rfl
          have eg : (fun c : UInt8 => if c.toNat < 0 then !acc.any (hit · c) else acc.any (hit · c)) = fits ⟨2, acc, false⟩ := by
            funext c; simp [fits]
          rw [eg] at kx
          have d0 := kx.obj
          have d1 := kx.b1.obj
          (repeat' first
            | refine AWP.seq ?_
            | refine AWP.block ?_
            | (refine AWP.skip ?_; try dsimp only [thn, inBlk])
            | (refine AWP.exit ?_; try simp only [thn, inBlk, if_true, reduceIte, Nat.reduceEqDiff])
            | (refine AWP.ret ?_; try dsimp only [thn, inBlk])
            | (refine AWP.condT ?_ ?_; (focus (simp [go_sem, w3, d0, d1]; done)))
            | (refine AWP.condF ?_ ?_; (focus (simp [go_sem, w3, d0, d1]; done)))
            | (apply AWP.rE; (focus (simp [go_sem, w3, d0, d1]; exact ⟨rfl, rfl⟩)); try dsimp only [thn, inBlk])
            | fail)
          simp [bodyQ, thn, inBlk, resA, resV, go_sem]
          exact ⟨((kx.b1.set (.row (rec (fits _) false false 0) 47 259 true false)).tail).tail, at3 + 1, i3, i2.symm, rfl⟩
        | true =>
          by_cases hx3 : x < 256
          · have hx4 : (x : Int) < 256 := by omega
            have ox := kx.obj
            have wx := wnat (n := x) (by omega)
            have hn : (UInt8.ofNat x).toNat = x := by simp; omega
            have rg := rec_in (g := fun c => if c.toNat < x then !acc.any (hit · c) else acc.any (hit · c)) (r := false) (p := false) (b := 0) hx3
            simp only [hn, Nat.lt_irrefl, if_false] at rg
            have rs := rec_set (g := fun c => if c.toNat < x then !acc.any (hit · c) else acc.any (hit · c)) (r := false) (p := false) (b := 0) (x := !acc.any (hit · (UInt8.ofNat x))) hx3
            have e1 : (fun c : UInt8 => if c.toNat = x then !acc.any (hit · (UInt8.ofNat x)) else if c.toNat < x then !acc.any (hit · c) else acc.any (hit · c)) = fun c => if c.toNat < x + 1 then !acc.any (hit · c) else acc.any (hit · c) := by
              funext c
              by_cases h1 : c.toNat = x
              · have h2 : UInt8.ofNat x = c := UInt8.toNat_inj.1 (by rw [hn, h1])
                rw [if_pos h1, if_pos (by omega), h2]
              · rw [if_neg h1]
                by_cases h2 : c.toNat < x
                · rw [if_pos h2, if_pos (by omega)]
                · rw [if_neg h2, if_neg (by omega)]
            rw [e1] at rs
            have kz := kx.set (.row (rec (fun c => if c.toNat < x + 1 then !acc.any (hit · c) else acc.any (hit · c)) false false 0) 47 259 true false)
            have zl := rec_len (g := fun c => if c.toNat < x then !acc.any (hit · c) else acc.any (hit · c)) (r := false) (p := false) (b := 0)
            generalize (rec (fun c => if c.toNat < x then !acc.any (hit · c) else acc.any (hit · c)) false false 0) = Z1 at *
            have rg' : ∀ hh, Z1[1 + x]'hh = .bool (acc.any (hit · (UInt8.ofNat x))) := fun hh => by
              rw [List.getElem?_eq_getElem hh] at rg; exact Option.some.inj rg
            generalize (acc.any (hit · (UInt8.ofNat x))) = gx at *
            have hx8 : 1 + x ≤ 258 := by omega
            (repeat' first
              | refine AWP.seq ?_
              | refine AWP.block ?_
              | (refine AWP.skip ?_; try dsimp only [thn, inBlk])
              | (refine AWP.exit ?_; try simp only [thn, inBlk, if_true, reduceIte, Nat.reduceEqDiff])
              | (refine AWP.ret ?_; try dsimp only [thn, inBlk])
              | (refine AWP.condT ?_ ?_; (focus (simp [go_sem, hx3, hx4, hx8, ox, wx, zl, rg, rg', rs]; done)))
              | (refine AWP.condF ?_ ?_; (focus (simp [go_sem, hx3, hx4, hx8, ox, wx, zl, rg, rg', rs]; done)))
              | (apply AWP.rE; (focus (simp [go_sem, hx3, hx4, hx8, ox, wx, zl, rg, rg', rs]; exact ⟨rfl, rfl⟩)); try dsimp only [thn, inBlk])
              | fail)
            exact ⟨256 - (x + 1), by omega, x + 1, by omega, rfl, fun h => (by cases h), by simp [go_sem], kz⟩
          · have hx4 : ¬ (x : Int) < 256 := by omega
            have hxe : x = 256 := by omega
            have eg : (fun c : UInt8 => if c.toNat < x then !acc.any (hit · c) else acc.any (hit · c)) = fits ⟨2, acc, true⟩ := by
              funext c
              have := c.toNat_lt
              rw [if_pos (by omega)]
              simp [fits]
            rw [eg] at kx
            have d0 := kx.obj
            have d1 := kx.b1.obj
            (repeat' first
              | refine AWP.seq ?_
              | refine AWP.block ?_
              | (refine AWP.skip ?_; try dsimp only [thn, inBlk])
              | (refine AWP.exit ?_; try simp only [thn, inBlk, if_true, reduceIte, Nat.reduceEqDiff])
              | (refine AWP.ret ?_; try dsimp only [thn, inBlk])
              | (refine AWP.condT ?_ ?_; (focus (simp [go_sem, w3,hx4,hx3, d0, d1]; done)))
              | (refine AWP.condF ?_ ?_; (focus (simp [go_sem, w3,hx4,hx3, d0, d1]; done)))
              | (apply AWP.rE; (focus (simp [go_sem, w3,hx4,hx3, d0, d1]; exact ⟨rfl, rfl⟩)); try dsimp only [thn, inBlk])
              | fail)
            simp [bodyQ, thn, inBlk, resA, resV, go_sem]
            exact ⟨((kx.b1.set (.row (rec (fits _) false false 0) 47 259 true false)).tail).tail, at3 + 1, i3, i2.symm, rfl⟩
  | .bad =>
    rw [clsGo_bad e] at hgo
    rw [hgo] at hcls
    simp only [Option.map_none] at hcls
    rw [hcls]
    have c0 := kt.obj
    have c1 := kt.b1.obj
    have kf := kt.b1.set (.row (rec (fun c => acc.any (hit · c)) false false 0) 47 259 true false)
    obtain ⟨c, t, rfl, hc93, hb⟩ := stp_bad e
    obtain ⟨i0, i1, i2, i3⟩ := at_cons hd3
    have n93 : ((c.toNat : Int) != 93) = true := by have := neI (d := 93) hc93; simp at this ⊢; omega
    rcases hb with hc | ⟨hc, hb⟩
    · have hc' : ((c.toNat : Int) == 45) = true := by rw [hc]; rfl
      (repeat' first
        | refine AWP.seq ?_
        | refine AWP.block ?_
        | (refine AWP.skip ?_; try dsimp only [thn, inBlk])
        | (refine AWP.exit ?_; try simp only [thn, inBlk, if_true, reduceIte, Nat.reduceEqDiff])
        | (refine AWP.ret ?_; try dsimp only [thn, inBlk])
        | (refine AWP.condT ?_ ?_; (focus (simp [go_sem, i0,i1,n93,hc', c0, c1]; done)))
        | (refine AWP.condF ?_ ?_; (focus (simp [go_sem, i0,i1,n93,hc', c0, c1]; done)))
        | (apply AWP.rE; (focus (simp [go_sem, i0,i1,n93,hc', c0, c1]; exact ⟨rfl, rfl⟩)); try dsimp only [thn, inBlk])
        | fail)
      simp [bodyQ, thn, inBlk, resA, resV, go_sem]
      exact ⟨kf.tail.tail, _, rfl⟩
    have hc' : ((c.toNat : Int) == 45) = false := neI (d := 45) hc
    have w3 : IntKind.i64.wrap ((at3 : Int) + 1) = ((at3 + 1 : Nat) : Int) := wnat (by omega)
    generalize h4 : at3 + 1 = a4 at *
    have w4 : IntKind.i64.wrap ((a4 : Int) + 1) = ((a4 + 1 : Nat) : Int) := wnat (by omega)
    generalize h5 : a4 + 1 = a5 at *
    rcases hb with rfl | ⟨d, t3, rfl, hd⟩
    · obtain ⟨j0, j1, j2, j3⟩ := at_cons i2
      rw [h5] at j2
      have j4 := at_nil j2
      have j5 : (s.length : Int) ≤ a5 := by omega
      (repeat' first
        | refine AWP.seq ?_
        | refine AWP.block ?_
        | (refine AWP.skip ?_; try dsimp only [thn, inBlk])
        | (refine AWP.exit ?_; try simp only [thn, inBlk, if_true, reduceIte, Nat.reduceEqDiff])
        | (refine AWP.ret ?_; try dsimp only [thn, inBlk])
        | (refine AWP.condT ?_ ?_; (focus (simp [go_sem, i0,i1,n93,hc',w3,w4,j0,j1,j4,j5, c0, c1]; done)))
        | (refine AWP.condF ?_ ?_; (focus (simp [go_sem, i0,i1,n93,hc',w3,w4,j0,j1,j4,j5, c0, c1]; done)))
        | (apply AWP.rE; (focus (simp [go_sem, i0,i1,n93,hc',w3,w4,j0,j1,j4,j5, c0, c1]; exact ⟨rfl, rfl⟩)); try dsimp only [thn, inBlk])
        | fail)
      simp [bodyQ, thn, inBlk, resA, resV, go_sem]
      exact ⟨kf.tail.tail, _, rfl⟩
    · obtain ⟨j0, j1, j2, j3⟩ := at_cons i2
      rw [h5] at j2 j3
      obtain ⟨q0, q1, q2, q3⟩ := at_cons j2
      have q5 : ¬ (s.length : Int) ≤ a5 := by omega
      rcases hd with hd | ⟨hd, hd2⟩
      · have d1 : ((d.toNat : Int) == 93) = true := by rw [hd]; rfl
        (repeat' first
          | refine AWP.seq ?_
          | refine AWP.block ?_
          | (refine AWP.skip ?_; try dsimp only [thn, inBlk])
          | (refine AWP.exit ?_; try simp only [thn, inBlk, if_true, reduceIte, Nat.reduceEqDiff])
          | (refine AWP.ret ?_; try dsimp only [thn, inBlk])
          | (refine AWP.condT ?_ ?_; (focus (simp [go_sem, i0,i1,n93,hc',w3,w4,j0,j1,q0,q1,q5,d1, c0, c1]; done)))
          | (refine AWP.condF ?_ ?_; (focus (simp [go_sem, i0,i1,n93,hc',w3,w4,j0,j1,q0,q1,q5,d1, c0, c1]; done)))
          | (apply AWP.rE; (focus (simp [go_sem, i0,i1,n93,hc',w3,w4,j0,j1,q0,q1,q5,d1, c0, c1]; exact ⟨rfl, rfl⟩)); try dsimp only [thn, inBlk])
          | fail)
        simp [bodyQ, thn, inBlk, resA, resV, go_sem]
        exact ⟨kf.tail.tail, _, rfl⟩
      have d1 : ((d.toNat : Int) == 93) = false := neI (d := 93) hd
      rcases hd2 with hd2 | ⟨hd2, hd3⟩
      · have d2 : ((d.toNat : Int) == 45) = true := by rw [hd2]; rfl
        (repeat' first
          | refine AWP.seq ?_
          | refine AWP.block ?_
          | (refine AWP.skip ?_; try dsimp only [thn, inBlk])
          | (refine AWP.exit ?_; try simp only [thn, inBlk, if_true, reduceIte, Nat.reduceEqDiff])
          | (refine AWP.ret ?_; try dsimp only [thn, inBlk])
          | (refine AWP.condT ?_ ?_; (focus (simp [go_sem, i0,i1,n93,hc',w3,w4,j0,j1,q0,q1,q5,d1,d2, c0, c1]; done)))
          | (refine AWP.condF ?_ ?_; (focus (simp [go_sem, i0,i1,n93,hc',w3,w4,j0,j1,q0,q1,q5,d1,d2, c0, c1]; done)))
          | (apply AWP.rE; (focus (simp [go_sem, i0,i1,n93,hc',w3,w4,j0,j1,q0,q1,q5,d1,d2, c0, c1]; exact ⟨rfl, rfl⟩)); try dsimp only [thn, inBlk])
          | fail)
        simp [bodyQ, thn, inBlk, resA, resV, go_sem]
        exact ⟨kf.tail.tail, _, rfl⟩
      have d2 : ((d.toNat : Int) == 45) = false := neI (d := 45) hd2
      have d3 : (d.toNat : Int) < c.toNat := by have := UInt8.lt_iff_toNat_lt.1 hd3; omega
      (repeat' first
        | refine AWP.seq ?_
        | refine AWP.block ?_
        | (refine AWP.skip ?_; try dsimp only [thn, inBlk])
        | (refine AWP.exit ?_; try simp only [thn, inBlk, if_true, reduceIte, Nat.reduceEqDiff])
        | (refine AWP.ret ?_; try dsimp only [thn, inBlk])
        | (refine AWP.condT ?_ ?_; (focus (simp [go_sem, i0,i1,n93,hc',w3,w4,j0,j1,q0,q1,q5,d1,d2,d3, c0, c1]; done)))
        | (refine AWP.condF ?_ ?_; (focus (simp [go_sem, i0,i1,n93,hc',w3,w4,j0,j1,q0,q1,q5,d1,d2,d3, c0, c1]; done)))
        | (apply AWP.rE; (focus (simp [go_sem, i0,i1,n93,hc',w3,w4,j0,j1,q0,q1,q5,d1,d2,d3, c0, c1]; exact ⟨rfl, rfl⟩)); try dsimp only [thn, inBlk])
        | fail)
      simp [bodyQ, thn, inBlk, resA, resV, go_sem]
      exact ⟨kf.tail.tail, _, rfl⟩
  | .one a b r =>
    obtain ⟨h93, h45, hb⟩ := stp_one e
    rw [clsGo_one e] at hgo
    have n93 : ((a.toNat : Int) != 93) = true := by have := neI (d := 93) h93; simp at this ⊢; omega
    have n45 : ((a.toNat : Int) == 45) = false := neI (d := 45) h45
    rcases hb with ⟨rfl, rfl, hr⟩ | ⟨rfl, b93, b45, hba⟩
    · obtain ⟨i0, i1, i2, i3⟩ := at_cons hd3
      have w3 : IntKind.i64.wrap ((at3 : Int) + 1) = ((at3 + 1 : Nat) : Int) := wnat (by omega)
      generalize h4 : at3 + 1 = a4 at *
      have hab : b ≤ b := UInt8.le_refl _
      have hRR := i2
      have hAT := i3
      rcases hr with rfl | ⟨y, t, rfl, hy⟩
      · have j0 := at_nil i2
        have wa : IntKind.i64.wrap (b.toNat : Int) = (b.toNat : Int) := wI64 (by omega) (by have := b.toNat_lt; omega)
        have wb : IntKind.i64.wrap (b.toNat : Int) = (b.toNat : Int) := wI64 (by omega) (by have := b.toNat_lt; omega)
        have hblt := b.toNat_lt
        (repeat' first
          | refine AWP.seq ?_
          | refine AWP.block ?_
          | (refine AWP.skip ?_; try dsimp only [thn, inBlk])
          | (refine AWP.exit ?_; try simp only [thn, inBlk, if_true, reduceIte, Nat.reduceEqDiff])
          | (refine AWP.ret ?_; try dsimp only [thn, inBlk])
          | (refine AWP.condT ?_ ?_; (focus (simp [go_sem, i0,i1,n93,n45,w3,j0, wa]; done)))
          | (refine AWP.condF ?_ ?_; (focus (simp [go_sem, i0,i1,n93,n45,w3,j0, wa]; done)))
          | (apply AWP.rE; (focus (simp [go_sem, i0,i1,n93,n45,w3,j0, wa]; exact ⟨rfl, rfl⟩)); try dsimp only [thn, inBlk])
          | fail)
        refine AWP.loopR [0, 1, 4, 7, 8, 9, 11, 12] (fun m s' h' => ∃ x : Nat, b.toNat ≤ x ∧ x ≤ b.toNat + 1 ∧ m = b.toNat + 1 - x ∧ s' = ⟨127, [(0, .string ⟨s.toArray⟩), (1, .int .i64 (a4 : Nat)), (4, .pointer (some ⟨h.next, 0, none⟩)), (7, .pointer (some ⟨h.next + 1, 0, none⟩)), (8, .bool ng), (9, .int .i64 acc.length), (11, .int .u8 b.toNat), (12, .int .i64 x)]⟩ ∧
          Own O h' (cell (h.next + 1) (.row (rec (fun c => acc.any (hit · c) || (decide (b ≤ c) && decide (c.toNat < x))) false false 0) 47 259 true false) :: cell h.next (.row zrec 47 259 true false) :: R)) ?_ ?_
        · refine ⟨_, b.toNat, Nat.le_refl _, by have := UInt8.le_iff_toNat_le.1 hab; omega, rfl, by simp [go_sem], ?_⟩
          have e0 : (fun c : UInt8 => acc.any (hit · c) || (decide (b ≤ c) && decide (c.toNat < b.toNat))) = fun c => acc.any (hit · c) := by
            funext c
            by_cases h1 : b ≤ c
            · have := UInt8.le_iff_toNat_le.1 h1
              have h2 : ¬ c.toNat < b.toNat := by omega
              simp [h2]
            · simp [h1]
          rw [e0]; exact kt
        rintro m s' h'' ⟨x, hx1, hx2, rfl, rfl, kx⟩
        by_cases hx3 : x ≤ b.toNat
        · have hx4 : (x : Int) ≤ b.toNat := by omega
          have ox := kx.obj
          have hx5 : x < 256 := by omega
          have hx6 : (x : Int) < 256 := by omega
          have wx := wnat (n := x) (by omega)
          have rs := rec_set (g := fun c => acc.any (hit · c) || (decide (b ≤ c) && decide (c.toNat < x))) (r := false) (p := false) (b := 0) (x := true) hx5
          have e1 : (fun c : UInt8 => if c.toNat = x then true else acc.any (hit · c) || (decide (b ≤ c) && decide (c.toNat < x))) = fun c => acc.any (hit · c) || (decide (b ≤ c) && decide (c.toNat < x + 1)) := by
            funext c
            by_cases h1 : c.toNat = x
            · have h2 : b ≤ c := UInt8.le_iff_toNat_le.2 (by omega)
              simp [h1, h2]
            · have h2 : (c.toNat < x + 1) ↔ (c.toNat < x) := by omega
              simp [h1, h2]
          rw [e1] at rs
          have kz := kx.set (.row (rec (fun c => acc.any (hit · c) || (decide (b ≤ c) && decide (c.toNat < x + 1))) false false 0) 47 259 true false)
          have zl := rec_len (g := fun c => acc.any (hit · c) || (decide (b ≤ c) && decide (c.toNat < x))) (r := false) (p := false) (b := 0)
          generalize (rec (fun c => acc.any (hit · c) || (decide (b ≤ c) && decide (c.toNat < x))) false false 0) = Z1 at *
          have hx8 : 1 + x ≤ 258 := by omega
          (repeat' first
            | refine AWP.seq ?_
            | refine AWP.block ?_
            | (refine AWP.skip ?_; try dsimp only [thn, inBlk])
            | (refine AWP.exit ?_; try simp only [thn, inBlk, if_true, reduceIte, Nat.reduceEqDiff])
            | (refine AWP.ret ?_; try dsimp only [thn, inBlk])
            | (refine AWP.condT ?_ ?_; (focus (simp [go_sem, hx4, ox, hx5, hx6, hx8, wx, wb, rs, zl]; done)))
            | (refine AWP.condF ?_ ?_; (focus (simp [go_sem, hx4, ox, hx5, hx6, hx8, wx, wb, rs, zl]; done)))
            | (apply AWP.rE; (focus (simp [go_sem, hx4, ox, hx5, hx6, hx8, wx, wb, rs, zl]; exact ⟨rfl, rfl⟩)); try dsimp only [thn, inBlk])
            | fail)
          exact ⟨b.toNat + 1 - (x + 1), by omega, x + 1, by omega, by omega, rfl, by simp [go_sem], kz⟩
        have hx4 : ¬ (x : Int) ≤ b.toNat := by omega
        have wn := wnat (n := acc.length) (by omega)
        have hxe : x = b.toNat + 1 := by omega
        have e2 : (fun c : UInt8 => acc.any (hit · c) || (decide (b ≤ c) && decide (c.toNat < x))) = fun c => (acc ++ [(b, b)]).any (hit · c) := by
          funext c
          have h2 : (c ≤ b) ↔ (c.toNat < x) := by rw [UInt8.le_iff_toNat_le]; omega
          simp [hit, h2]
        rw [e2] at kx
        (repeat' first
          | refine AWP.seq ?_
          | refine AWP.block ?_
          | (refine AWP.skip ?_; try dsimp only [thn, inBlk])
          | (refine AWP.exit ?_; try simp only [thn, inBlk, if_true, reduceIte, Nat.reduceEqDiff])
          | (refine AWP.ret ?_; try dsimp only [thn, inBlk])
          | (refine AWP.condT ?_ ?_; (focus (simp [go_sem, hx4, wb, wn]; done)))
          | (refine AWP.condF ?_ ?_; (focus (simp [go_sem, hx4, wb, wn]; done)))
          | (apply AWP.rE; (focus (simp [go_sem, hx4, wb, wn]; exact ⟨rfl, rfl⟩)); try dsimp only [thn, inBlk])
          | fail)
        refine ⟨([] : List UInt8).length, (show ([] : List UInt8).length < _ by first | (simp; done) | (simp; omega)), [], a4, acc ++ [(b, b)], hRR, hAT, rfl, ?_, ?_, by simp [go_sem], kx⟩
        · rw [hgo]; cases clsGo ([] : List UInt8) <;> simp
        · simp at hac ⊢; omega
      · obtain ⟨j0, j1, j2, j3⟩ := at_cons i2
        have nx : ((y.toNat : Int) == 45) = false := neI (d := 45) hy
        have wa : IntKind.i64.wrap (b.toNat : Int) = (b.toNat : Int) := wI64 (by omega) (by have := b.toNat_lt; omega)
        have wb : IntKind.i64.wrap (b.toNat : Int) = (b.toNat : Int) := wI64 (by omega) (by have := b.toNat_lt; omega)
        have hblt := b.toNat_lt
        (repeat' first
          | refine AWP.seq ?_
          | refine AWP.block ?_
          | (refine AWP.skip ?_; try dsimp only [thn, inBlk])
          | (refine AWP.exit ?_; try simp only [thn, inBlk, if_true, reduceIte, Nat.reduceEqDiff])
          | (refine AWP.ret ?_; try dsimp only [thn, inBlk])
          | (refine AWP.condT ?_ ?_; (focus (simp [go_sem, i0,i1,n93,n45,w3,j0,j1,nx, wa]; done)))
          | (refine AWP.condF ?_ ?_; (focus (simp [go_sem, i0,i1,n93,n45,w3,j0,j1,nx, wa]; done)))
          | (apply AWP.rE; (focus (simp [go_sem, i0,i1,n93,n45,w3,j0,j1,nx, wa]; exact ⟨rfl, rfl⟩)); try dsimp only [thn, inBlk])
          | fail)
        refine AWP.loopR [0, 1, 4, 7, 8, 9, 11, 12] (fun m s' h' => ∃ x : Nat, b.toNat ≤ x ∧ x ≤ b.toNat + 1 ∧ m = b.toNat + 1 - x ∧ s' = ⟨127, [(0, .string ⟨s.toArray⟩), (1, .int .i64 (a4 : Nat)), (4, .pointer (some ⟨h.next, 0, none⟩)), (7, .pointer (some ⟨h.next + 1, 0, none⟩)), (8, .bool ng), (9, .int .i64 acc.length), (11, .int .u8 b.toNat), (12, .int .i64 x)]⟩ ∧
          Own O h' (cell (h.next + 1) (.row (rec (fun c => acc.any (hit · c) || (decide (b ≤ c) && decide (c.toNat < x))) false false 0) 47 259 true false) :: cell h.next (.row zrec 47 259 true false) :: R)) ?_ ?_
        · refine ⟨_, b.toNat, Nat.le_refl _, by have := UInt8.le_iff_toNat_le.1 hab; omega, rfl, by simp [go_sem], ?_⟩
          have e0 : (fun c : UInt8 => acc.any (hit · c) || (decide (b ≤ c) && decide (c.toNat < b.toNat))) = fun c => acc.any (hit · c) := by
            funext c
            by_cases h1 : b ≤ c
            · have := UInt8.le_iff_toNat_le.1 h1
              have h2 : ¬ c.toNat < b.toNat := by omega
              simp [h2]
            · simp [h1]
          rw [e0]; exact kt
        rintro m s' h'' ⟨x, hx1, hx2, rfl, rfl, kx⟩
        by_cases hx3 : x ≤ b.toNat
        · have hx4 : (x : Int) ≤ b.toNat := by omega
          have ox := kx.obj
          have hx5 : x < 256 := by omega
          have hx6 : (x : Int) < 256 := by omega
          have wx := wnat (n := x) (by omega)
          have rs := rec_set (g := fun c => acc.any (hit · c) || (decide (b ≤ c) && decide (c.toNat < x))) (r := false) (p := false) (b := 0) (x := true) hx5
          have e1 : (fun c : UInt8 => if c.toNat = x then true else acc.any (hit · c) || (decide (b ≤ c) && decide (c.toNat < x))) = fun c => acc.any (hit · c) || (decide (b ≤ c) && decide (c.toNat < x + 1)) := by
            funext c
            by_cases h1 : c.toNat = x
            · have h2 : b ≤ c := UInt8.le_iff_toNat_le.2 (by omega)
              simp [h1, h2]
            · have h2 : (c.toNat < x + 1) ↔ (c.toNat < x) := by omega
              simp [h1, h2]
          rw [e1] at rs
          have kz := kx.set (.row (rec (fun c => acc.any (hit · c) || (decide (b ≤ c) && decide (c.toNat < x + 1))) false false 0) 47 259 true false)
          have zl := rec_len (g := fun c => acc.any (hit · c) || (decide (b ≤ c) && decide (c.toNat < x))) (r := false) (p := false) (b := 0)
          generalize (rec (fun c => acc.any (hit · c) || (decide (b ≤ c) && decide (c.toNat < x))) false false 0) = Z1 at *
          have hx8 : 1 + x ≤ 258 := by omega
          (repeat' first
            | refine AWP.seq ?_
            | refine AWP.block ?_
            | (refine AWP.skip ?_; try dsimp only [thn, inBlk])
            | (refine AWP.exit ?_; try simp only [thn, inBlk, if_true, reduceIte, Nat.reduceEqDiff])
            | (refine AWP.ret ?_; try dsimp only [thn, inBlk])
            | (refine AWP.condT ?_ ?_; (focus (simp [go_sem, hx4, ox, hx5, hx6, hx8, wx, wb, rs, zl]; done)))
            | (refine AWP.condF ?_ ?_; (focus (simp [go_sem, hx4, ox, hx5, hx6, hx8, wx, wb, rs, zl]; done)))
            | (apply AWP.rE; (focus (simp [go_sem, hx4, ox, hx5, hx6, hx8, wx, wb, rs, zl]; exact ⟨rfl, rfl⟩)); try dsimp only [thn, inBlk])
            | fail)
          exact ⟨b.toNat + 1 - (x + 1), by omega, x + 1, by omega, by omega, rfl, by simp [go_sem], kz⟩
        have hx4 : ¬ (x : Int) ≤ b.toNat := by omega
        have wn := wnat (n := acc.length) (by omega)
        have hxe : x = b.toNat + 1 := by omega
        have e2 : (fun c : UInt8 => acc.any (hit · c) || (decide (b ≤ c) && decide (c.toNat < x))) = fun c => (acc ++ [(b, b)]).any (hit · c) := by
          funext c
          have h2 : (c ≤ b) ↔ (c.toNat < x) := by rw [UInt8.le_iff_toNat_le]; omega
          simp [hit, h2]
        rw [e2] at kx
        (repeat' first
          | refine AWP.seq ?_
          | refine AWP.block ?_
          | (refine AWP.skip ?_; try dsimp only [thn, inBlk])
          | (refine AWP.exit ?_; try simp only [thn, inBlk, if_true, reduceIte, Nat.reduceEqDiff])
          | (refine AWP.ret ?_; try dsimp only [thn, inBlk])
          | (refine AWP.condT ?_ ?_; (focus (simp [go_sem, hx4, wb, wn]; done)))
          | (refine AWP.condF ?_ ?_; (focus (simp [go_sem, hx4, wb, wn]; done)))
          | (apply AWP.rE; (focus (simp [go_sem, hx4, wb, wn]; exact ⟨rfl, rfl⟩)); try dsimp only [thn, inBlk])
          | fail)
        refine ⟨((y::t) : List UInt8).length, (show ((y::t) : List UInt8).length < _ by first | (simp; done) | (simp; omega)), (y::t), a4, acc ++ [(b, b)], hRR, hAT, rfl, ?_, ?_, by simp [go_sem], kx⟩
        · rw [hgo]; cases clsGo ((y::t) : List UInt8) <;> simp
        · simp at hac ⊢; omega
    · obtain ⟨i0, i1, i2, i3⟩ := at_cons hd3
      have w3 : IntKind.i64.wrap ((at3 : Int) + 1) = ((at3 + 1 : Nat) : Int) := wnat (by omega)
      generalize h4 : at3 + 1 = a4 at *
      have w4 : IntKind.i64.wrap ((a4 : Int) + 1) = ((a4 + 1 : Nat) : Int) := wnat (by omega)
      generalize h5 : a4 + 1 = a5 at *
      have w5 : IntKind.i64.wrap ((a5 : Int) + 1) = ((a5 + 1 : Nat) : Int) := wnat (by omega)
      generalize h6 : a5 + 1 = a6 at *
      obtain ⟨j0, j1, j2, j3⟩ := at_cons i2
      rw [h5] at j2 j3
      obtain ⟨q0, q1, q2, q3⟩ := at_cons j2
      rw [h6] at q2 q3
      have q5 : ¬ (s.length : Int) ≤ a5 := by omega
      have d1 : ((b.toNat : Int) == 93) = false := neI (d := 93) b93
      have d2 : ((b.toNat : Int) == 45) = false := neI (d := 45) b45
      have d3 : ¬ (b.toNat : Int) < a.toNat := fun h => hba (UInt8.lt_iff_toNat_lt.2 (by omega))
      have hab : a ≤ b := UInt8.not_lt.1 hba
      have hRR := q2
      have hAT := q3
      have wa : IntKind.i64.wrap (a.toNat : Int) = (a.toNat : Int) := wI64 (by omega) (by have := a.toNat_lt; omega)
      have wb : IntKind.i64.wrap (b.toNat : Int) = (b.toNat : Int) := wI64 (by omega) (by have := b.toNat_lt; omega)
      have hblt := b.toNat_lt
      (repeat' first
        | refine AWP.seq ?_
        | refine AWP.block ?_
        | (refine AWP.skip ?_; try dsimp only [thn, inBlk])
        | (refine AWP.exit ?_; try simp only [thn, inBlk, if_true, reduceIte, Nat.reduceEqDiff])
        | (refine AWP.ret ?_; try dsimp only [thn, inBlk])
        | (refine AWP.condT ?_ ?_; (focus (simp [go_sem, i0,i1,n93,n45,w3,w4,w5,j0,j1,q0,q1,q5,d1,d2,d3, wa]; done)))
        | (refine AWP.condF ?_ ?_; (focus (simp [go_sem, i0,i1,n93,n45,w3,w4,w5,j0,j1,q0,q1,q5,d1,d2,d3, wa]; done)))
        | (apply AWP.rE; (focus (simp [go_sem, i0,i1,n93,n45,w3,w4,w5,j0,j1,q0,q1,q5,d1,d2,d3, wa]; exact ⟨rfl, rfl⟩)); try dsimp only [thn, inBlk])
        | fail)
      refine AWP.loopR [0, 1, 4, 7, 8, 9, 11, 12] (fun m s' h' => ∃ x : Nat, a.toNat ≤ x ∧ x ≤ b.toNat + 1 ∧ m = b.toNat + 1 - x ∧ s' = ⟨127, [(0, .string ⟨s.toArray⟩), (1, .int .i64 (a6 : Nat)), (4, .pointer (some ⟨h.next, 0, none⟩)), (7, .pointer (some ⟨h.next + 1, 0, none⟩)), (8, .bool ng), (9, .int .i64 acc.length), (11, .int .u8 b.toNat), (12, .int .i64 x)]⟩ ∧
        Own O h' (cell (h.next + 1) (.row (rec (fun c => acc.any (hit · c) || (decide (a ≤ c) && decide (c.toNat < x))) false false 0) 47 259 true false) :: cell h.next (.row zrec 47 259 true false) :: R)) ?_ ?_
      · refine ⟨_, a.toNat, Nat.le_refl _, by have := UInt8.le_iff_toNat_le.1 hab; omega, rfl, by simp [go_sem], ?_⟩
        have e0 : (fun c : UInt8 => acc.any (hit · c) || (decide (a ≤ c) && decide (c.toNat < a.toNat))) = fun c => acc.any (hit · c) := by
          funext c
          by_cases h1 : a ≤ c
          · have := UInt8.le_iff_toNat_le.1 h1
            have h2 : ¬ c.toNat < a.toNat := by omega
            simp [h2]
          · simp [h1]
        rw [e0]; exact kt
      rintro m s' h'' ⟨x, hx1, hx2, rfl, rfl, kx⟩
      by_cases hx3 : x ≤ b.toNat
      · have hx4 : (x : Int) ≤ b.toNat := by omega
        have ox := kx.obj
        have hx5 : x < 256 := by omega
        have hx6 : (x : Int) < 256 := by omega
        have wx := wnat (n := x) (by omega)
        have rs := rec_set (g := fun c => acc.any (hit · c) || (decide (a ≤ c) && decide (c.toNat < x))) (r := false) (p := false) (b := 0) (x := true) hx5
        have e1 : (fun c : UInt8 => if c.toNat = x then true else acc.any (hit · c) || (decide (a ≤ c) && decide (c.toNat < x))) = fun c => acc.any (hit · c) || (decide (a ≤ c) && decide (c.toNat < x + 1)) := by
          funext c
          by_cases h1 : c.toNat = x
          · have h2 : a ≤ c := UInt8.le_iff_toNat_le.2 (by omega)
            simp [h1, h2]
          · have h2 : (c.toNat < x + 1) ↔ (c.toNat < x) := by omega
            simp [h1, h2]
        rw [e1] at rs
        have kz := kx.set (.row (rec (fun c => acc.any (hit · c) || (decide (a ≤ c) && decide (c.toNat < x + 1))) false false 0) 47 259 true false)
        have zl := rec_len (g := fun c => acc.any (hit · c) || (decide (a ≤ c) && decide (c.toNat < x))) (r := false) (p := false) (b := 0)
        generalize (rec (fun c => acc.any (hit · c) || (decide (a ≤ c) && decide (c.toNat < x))) false false 0) = Z1 at *
        have hx8 : 1 + x ≤ 258 := by omega
        (repeat' first
          | refine AWP.seq ?_
          | refine AWP.block ?_
          | (refine AWP.skip ?_; try dsimp only [thn, inBlk])
          | (refine AWP.exit ?_; try simp only [thn, inBlk, if_true, reduceIte, Nat.reduceEqDiff])
          | (refine AWP.ret ?_; try dsimp only [thn, inBlk])
          | (refine AWP.condT ?_ ?_; (focus (simp [go_sem, hx4, ox, hx5, hx6, hx8, wx, wb, rs, zl]; done)))
          | (refine AWP.condF ?_ ?_; (focus (simp [go_sem, hx4, ox, hx5, hx6, hx8, wx, wb, rs, zl]; done)))
          | (apply AWP.rE; (focus (simp [go_sem, hx4, ox, hx5, hx6, hx8, wx, wb, rs, zl]; exact ⟨rfl, rfl⟩)); try dsimp only [thn, inBlk])
          | fail)
        exact ⟨b.toNat + 1 - (x + 1), by omega, x + 1, by omega, by omega, rfl, by simp [go_sem], kz⟩
      have hx4 : ¬ (x : Int) ≤ b.toNat := by omega
      have wn := wnat (n := acc.length) (by omega)
      have hxe : x = b.toNat + 1 := by omega
      have e2 : (fun c : UInt8 => acc.any (hit · c) || (decide (a ≤ c) && decide (c.toNat < x))) = fun c => (acc ++ [(a, b)]).any (hit · c) := by
        funext c
        have h2 : (c ≤ b) ↔ (c.toNat < x) := by rw [UInt8.le_iff_toNat_le]; omega
        simp [hit, h2]
      rw [e2] at kx
      (repeat' first
        | refine AWP.seq ?_
        | refine AWP.block ?_
        | (refine AWP.skip ?_; try dsimp only [thn, inBlk])
        | (refine AWP.exit ?_; try simp only [thn, inBlk, if_true, reduceIte, Nat.reduceEqDiff])
        | (refine AWP.ret ?_; try dsimp only [thn, inBlk])
        | (refine AWP.condT ?_ ?_; (focus (simp [go_sem, hx4, wb, wn]; done)))
        | (refine AWP.condF ?_ ?_; (focus (simp [go_sem, hx4, wb, wn]; done)))
        | (apply AWP.rE; (focus (simp [go_sem, hx4, wb, wn]; exact ⟨rfl, rfl⟩)); try dsimp only [thn, inBlk])
        | fail)
      refine ⟨(r : List UInt8).length, (show (r : List UInt8).length < _ by first | (simp; done) | (simp; omega)), r, a6, acc ++ [(a, b)], hRR, hAT, rfl, ?_, ?_, by simp [go_sem], kx⟩
      · rw [hgo]; cases clsGo (r : List UInt8) <;> simp
      · simp at hac ⊢; omega
end L15
