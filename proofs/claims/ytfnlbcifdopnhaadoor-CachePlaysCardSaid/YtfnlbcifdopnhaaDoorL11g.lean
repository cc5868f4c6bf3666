import Derived.Test.YtfnlbcifdopnhaaDoorL11f
import Derived.Test.YtfnlbcifdopnhaaDoorAbLibE
open Go Ab Go.Proofs
namespace L11
set_option autoImplicit false
set_option linter.unusedSimpArgs false
set_option linter.unusedVariables false

/-! ### Grants and tickets -/
structure Gt where
  sv : List UInt8
  ky : List UInt8
  no : Nat
  st : Int
  en : Int
  fl : Int
structure Cr where
  cl : List UInt8
  tk : List UInt8
  g : Gt
abbrev Pl := Option Addr × Nat
def k16 (ky : List UInt8) : List UInt8 := (ky ++ List.replicate 16 0).take 16
theorem k16_len (ky : List UInt8) : (k16 ky).length = 16 := by simp [k16]
theorem k16_of {ky : List UInt8} (h : ky.length = 16) : k16 ky = ky := by simp [k16, List.take_append_of_le_length, h]
def gr (g : Gt) : List Value := tx g.sv :: ((k16 g.ky).map B ++ [.int .u64 g.no, .int .i64 g.st, .int .i64 g.en, .int .i64 g.fl])
def cr (c : Cr) (p : Pl) : List Value := tx c.cl :: .slice p.1 c.tk.length p.2 :: gr c.g
abbrev grV (g : Gt) : Value := .agg (gr g).toArray
abbrev crV (x : Cr × Pl) : Value := .agg (cr x.1 x.2).toArray
abbrev zG : Gt := ⟨[], [], 0, 0, 0, 0⟩
abbrev zC : Cr := ⟨[], [], zG⟩
abbrev zP : Pl := (none, 0)
theorem okAll_all : ∀ l : List Value, okAll l = l.all okCell
  | [] => rfl
  | v :: l => by rw [okAll, okAll_all l]; rfl
section
variable {g g' : Gt} {c c' : Cr} {p p' : Pl}
theorem gr_len : (gr g).length = 21 := by simp [gr, k16_len]
theorem gr_0 : (gr g)[0]? = some (tx g.sv) := rfl
theorem gr_17 : (gr g)[17]? = some (.int .u64 g.no) := by
  unfold gr
  rw [List.getElem?_cons_succ, List.getElem?_append_right (by simp [k16_len])]; simp [k16_len]
theorem gr_18 : (gr g)[18]? = some (.int .i64 g.st) := by
  unfold gr
  rw [List.getElem?_cons_succ, List.getElem?_append_right (by simp [k16_len])]; simp [k16_len]
theorem gr_19 : (gr g)[19]? = some (.int .i64 g.en) := by
  unfold gr
  rw [List.getElem?_cons_succ, List.getElem?_append_right (by simp [k16_len])]; simp [k16_len]
theorem gr_20 : (gr g)[20]? = some (.int .i64 g.fl) := by
  unfold gr
  rw [List.getElem?_cons_succ, List.getElem?_append_right (by simp [k16_len])]; simp [k16_len]
theorem gr_g0 (h : 0 < (gr g).length) : (gr g)[0] = tx g.sv := rfl
theorem gr_g17 (h : 17 < (gr g).length) : (gr g)[17] = .int .u64 g.no := by
  have := gr_17 (g := g); rw [List.getElem?_eq_getElem h] at this; exact Option.some.inj this
theorem gr_g18 (h : 18 < (gr g).length) : (gr g)[18] = .int .i64 g.st := by
  have := gr_18 (g := g); rw [List.getElem?_eq_getElem h] at this; exact Option.some.inj this
theorem gr_g19 (h : 19 < (gr g).length) : (gr g)[19] = .int .i64 g.en := by
  have := gr_19 (g := g); rw [List.getElem?_eq_getElem h] at this; exact Option.some.inj this
theorem gr_g20 (h : 20 < (gr g).length) : (gr g)[20] = .int .i64 g.fl := by
  have := gr_20 (g := g); rw [List.getElem?_eq_getElem h] at this; exact Option.some.inj this
theorem gr_take : (gr g).take 21 = gr g := List.take_of_length_le (by rw [gr_len]; omega)
theorem gr_key : ((gr g).drop 1).take 16 = (k16 g.ky).map B := by
  show ((k16 g.ky).map B ++ _).take 16 = _
  rw [List.take_append_of_le_length (by simp [k16_len]), List.take_of_length_le (by simp [k16_len])]
theorem gr_ok : (gr g).all okCell = true := by
  simp [gr, okCell, B]
  refine ⟨⟨rfl, rfl⟩, fun x _ => ⟨rfl, rfl⟩, ⟨rfl, rfl⟩, ⟨rfl, rfl⟩, ⟨rfl, rfl⟩, rfl, rfl⟩
theorem gr_okAll : okAll (gr g) = true := by rw [okAll_all]; exact gr_ok
theorem gr_flat : flatB (grV g) = true := by
  simp [flatB, gr, flat1, B]
theorem cr_len : (cr c p).length = 23 := by simp [cr, gr_len]
theorem cr_0 : (cr c p)[0]? = some (tx c.cl) := rfl
theorem cr_1 : (cr c p)[1]? = some (.slice p.1 c.tk.length p.2) := rfl
theorem cr_2 : (cr c p)[2]? = some (tx c.g.sv) := rfl
theorem cr_21 : (cr c p)[21]? = some (.int .i64 c.g.en) := by
  show (gr c.g)[19]? = _
  exact gr_19
theorem cr_g0 (h : 0 < (cr c p).length) : (cr c p)[0] = tx c.cl := rfl
theorem cr_g1 (h : 1 < (cr c p).length) : (cr c p)[1] = .slice p.1 c.tk.length p.2 := rfl
theorem cr_g2 (h : 2 < (cr c p).length) : (cr c p)[2] = tx c.g.sv := rfl
theorem cr_g21 (h : 21 < (cr c p).length) : (cr c p)[21] = .int .i64 c.g.en := by
  have := cr_21 (c := c) (p := p); rw [List.getElem?_eq_getElem h] at this; exact Option.some.inj this
theorem cr_take : (cr c p).take 23 = cr c p := List.take_of_length_le (by rw [cr_len]; omega)
theorem cr_gr : ((cr c p).drop 2).take 21 = gr c.g := by
  show (gr c.g).take 21 = _
  exact gr_take
theorem cr_ok : (cr c p).all okCell = true := by
  simp only [cr, List.all_cons, gr_ok, Bool.and_true]; rfl
theorem cr_okAll : okAll (cr c p) = true := by rw [okAll_all]; exact cr_ok
theorem cr_setL : setL (cr c p) 0 (cr c' p') = cr c' p' := by
  simpa using setL_full (cr c' p') [] (cr c p) (by rw [cr_len, cr_len])
theorem cr_set1 {a : Option Addr} {cap : Nat} : (cr c p).set 1 (.slice a c.tk.length cap) = cr c (a, cap) := rfl
end
set_option maxRecDepth 100000 in
theorem tzC : tzero Tryd.prog 34 = some (crV (zC, zP)) := by kernel_rfl
theorem zC_const : (cr zC zP).all constCell = true := by kernel_rfl
set_option maxRecDepth 100000 in
theorem allocC (id : Nat) : allocA Tryd.prog id 34 = some (.pointer (some ⟨id, 0, none⟩), .row (cr zC zP) 34 23 true false) := by
  have h1 : constOk (crV (zC, zP)) = true := by simp only [constOk]; exact zC_const
  have h2 : (crV (zC, zP)).known = true := rfl
  have h3 : (crV (zC, zP)).cells.toList = cr zC zP := by simp [Value.cells]
  have h4 : (crV (zC, zP)).cells.size = 23 := by simp only [Value.cells, List.size_toArray]; exact cr_len
  simp only [allocA, tzC, h1, if_true, boxA, h2, h3, h4]
set_option maxRecDepth 100000 in
theorem buildC : buildP Tryd.prog 34 [] = some (crV (zC, zP)) := by
  rw [buildP_nil]
  have h1 : (crV (zC, zP)).cells.size = 23 := by simp only [Value.cells, List.size_toArray]; exact cr_len
  have h3 : (crV (zC, zP)).cells.toList = cr zC zP := by simp [Value.cells]
  have h1' : constOk (crV (zC, zP)) = true := by simp only [constOk]; exact zC_const
  simp only [tzC, tsz34, Tryd.underlying34]
  simp
  exact ⟨h1', ⟨rfl, rfl, rfl⟩, rfl⟩
attribute [irreducible] gr cr
attribute [go_sem] gr_g0 gr_g17 gr_g18 gr_g19 gr_g20 gr_len gr_take gr_0 gr_17 gr_18 gr_19 gr_20 gr_ok gr_okAll gr_key
attribute [go_sem] cr_g0 cr_g1 cr_g2 cr_g21 cr_len cr_take cr_0 cr_1 cr_2 cr_21 cr_ok cr_okAll cr_setL cr_set1 cr_gr

/-! ### Grants that are right -/
section
variable {O : Old} {h : AHeap} {R : List Chunk}
theorem named_calls {l : List UInt8} (k : Own O h R) (hm : l.length ≤ 900000) :
    ACalls Tryd.prog 30 #[tx l] h fun r h' => r = .bool (nameB l) ∧ Own O h' R := by
  refine ACalls.of_awp (args := [tx l]) (n := 12) Tryd.func30 rfl rfl (by show 1 ≤ 12; omega) ?_
  (repeat' first
    | refine AWP.seq ?_
    | refine AWP.block ?_
    | (refine AWP.skip ?_; try dsimp only [thn, inBlk])
    | (refine AWP.exit ?_; try simp only [thn, inBlk, if_true, reduceIte, Nat.reduceEqDiff])
    | (refine AWP.ret ?_; try dsimp only [thn, inBlk])
    | (refine AWP.condT ?_ ?_; (focus (simp [go_sem]; done)))
    | (refine AWP.condF ?_ ?_; (focus (simp [go_sem]; done)))
    | (apply AWP.rE; (focus (simp [go_sem]; exact ⟨rfl, rfl⟩)); try dsimp only [thn, inBlk])
    | fail)
  refine AWP.callE (by simp [go_sem]; exact ⟨rfl, rfl, rfl, rfl, rfl⟩) (by kernel_rfl) ?_
  refine (parse_calls (l := l) k hm).mono ?_
  rintro r hA ⟨⟨a, n, cap, q, rfl⟩, k2⟩
  have k3 := k2.push (.row [.slice a n cap, tx q] 57 2 true false)
  cases hb : nameB l
  · refine awpL_restE (by simp [go_sem]; exact ⟨rfl, rfl⟩) ?_; try dsimp only [thn, inBlk]
    (repeat' first
      | refine AWP.seq ?_
      | refine AWP.block ?_
      | (refine AWP.skip ?_; try dsimp only [thn, inBlk])
      | (refine AWP.exit ?_; try simp only [thn, inBlk, if_true, reduceIte, Nat.reduceEqDiff])
      | (refine AWP.ret ?_; try dsimp only [thn, inBlk])
      | (refine AWP.condT ?_ ?_; (focus (simp [go_sem]; done)))
      | (refine AWP.condF ?_ ?_; (focus (simp [go_sem]; done)))
      | (apply AWP.rE; (focus (simp [go_sem]; exact ⟨rfl, rfl⟩)); try dsimp only [thn, inBlk])
      | fail)
    simp [bodyQ, thn, inBlk, resA, resV, go_sem]
    exact k3.tail
  · refine awpL_restE (by simp [go_sem]; exact ⟨rfl, rfl⟩) ?_; try dsimp only [thn, inBlk]
    (repeat' first
      | refine AWP.seq ?_
      | refine AWP.block ?_
      | (refine AWP.skip ?_; try dsimp only [thn, inBlk])
      | (refine AWP.exit ?_; try simp only [thn, inBlk, if_true, reduceIte, Nat.reduceEqDiff])
      | (refine AWP.ret ?_; try dsimp only [thn, inBlk])
      | (refine AWP.condT ?_ ?_; (focus (simp [go_sem]; done)))
      | (refine AWP.condF ?_ ?_; (focus (simp [go_sem]; done)))
      | (apply AWP.rE; (focus (simp [go_sem]; exact ⟨rfl, rfl⟩)); try dsimp only [thn, inBlk])
      | fail)
    simp [bodyQ, thn, inBlk, resA, resV, go_sem]
    exact k3.tail
def lastsB (st en fl : Int) : Bool := decide (0 ≤ st) && decide (st ≤ en) && decide (en ≤ 1099511627776) && decide (0 ≤ fl) && decide (fl ≤ 3)
theorem lasts_calls {st en fl : Int} :
    ACalls Tryd.prog 31 #[.int .i64 st, .int .i64 en, .int .i64 fl] h fun r h' => r = .bool (lastsB st en fl) ∧ h' = h := by
  refine ACalls.of_awp (args := [.int .i64 st, .int .i64 en, .int .i64 fl]) (n := 26) Tryd.func31 rfl rfl (by show 3 ≤ 26; omega) ?_
  by_cases h1 : 0 ≤ st
  rotate_left
  · have e : lastsB st en fl = false := by simp [lastsB, h1]
    rw [e]
    (repeat' first
      | refine AWP.seq ?_
      | refine AWP.block ?_
      | (refine AWP.skip ?_; try dsimp only [thn, inBlk])
      | (refine AWP.exit ?_; try simp only [thn, inBlk, if_true, reduceIte, Nat.reduceEqDiff])
      | (refine AWP.ret ?_; try dsimp only [thn, inBlk])
      | (refine AWP.condT ?_ ?_; (focus (simp [go_sem, h1]; done)))
      | (refine AWP.condF ?_ ?_; (focus (simp [go_sem, h1]; done)))
      | (apply AWP.rE; (focus (simp [go_sem, h1]; exact ⟨rfl, rfl⟩)); try dsimp only [thn, inBlk])
      | fail)
    simp [bodyQ, thn, inBlk, resA, resV, go_sem]
  by_cases h2 : st ≤ en
  rotate_left
  · have e : lastsB st en fl = false := by simp [lastsB, h2]
    rw [e]
    (repeat' first
      | refine AWP.seq ?_
      | refine AWP.block ?_
      | (refine AWP.skip ?_; try dsimp only [thn, inBlk])
      | (refine AWP.exit ?_; try simp only [thn, inBlk, if_true, reduceIte, Nat.reduceEqDiff])
      | (refine AWP.ret ?_; try dsimp only [thn, inBlk])
      | (refine AWP.condT ?_ ?_; (focus (simp [go_sem, h1, h2]; done)))
      | (refine AWP.condF ?_ ?_; (focus (simp [go_sem, h1, h2]; done)))
      | (apply AWP.rE; (focus (simp [go_sem, h1, h2]; exact ⟨rfl, rfl⟩)); try dsimp only [thn, inBlk])
      | fail)
    simp [bodyQ, thn, inBlk, resA, resV, go_sem]
  by_cases h3 : en ≤ 1099511627776
  rotate_left
  · have e : lastsB st en fl = false := by simp [lastsB, h3]
    rw [e]
    (repeat' first
      | refine AWP.seq ?_
      | refine AWP.block ?_
      | (refine AWP.skip ?_; try dsimp only [thn, inBlk])
      | (refine AWP.exit ?_; try simp only [thn, inBlk, if_true, reduceIte, Nat.reduceEqDiff])
      | (refine AWP.ret ?_; try dsimp only [thn, inBlk])
      | (refine AWP.condT ?_ ?_; (focus (simp [go_sem, h1, h2, h3]; done)))
      | (refine AWP.condF ?_ ?_; (focus (simp [go_sem, h1, h2, h3]; done)))
      | (apply AWP.rE; (focus (simp [go_sem, h1, h2, h3]; exact ⟨rfl, rfl⟩)); try dsimp only [thn, inBlk])
      | fail)
    simp [bodyQ, thn, inBlk, resA, resV, go_sem]
  by_cases h4 : 0 ≤ fl
  rotate_left
  · have e : lastsB st en fl = false := by simp [lastsB, h4]
    rw [e]
    (repeat' first
      | refine AWP.seq ?_
      | refine AWP.block ?_
      | (refine AWP.skip ?_; try dsimp only [thn, inBlk])
      | (refine AWP.exit ?_; try simp only [thn, inBlk, if_true, reduceIte, Nat.reduceEqDiff])
      | (refine AWP.ret ?_; try dsimp only [thn, inBlk])
      | (refine AWP.condT ?_ ?_; (focus (simp [go_sem, h1, h2, h3, h4]; done)))
      | (refine AWP.condF ?_ ?_; (focus (simp [go_sem, h1, h2, h3, h4]; done)))
      | (apply AWP.rE; (focus (simp [go_sem, h1, h2, h3, h4]; exact ⟨rfl, rfl⟩)); try dsimp only [thn, inBlk])
      | fail)
    simp [bodyQ, thn, inBlk, resA, resV, go_sem]
  have e : lastsB st en fl = decide (fl ≤ 3) := by simp [lastsB, h1, h2, h3, h4]
  rw [e]
  (repeat' first
    | refine AWP.seq ?_
    | refine AWP.block ?_
    | (refine AWP.skip ?_; try dsimp only [thn, inBlk])
    | (refine AWP.exit ?_; try simp only [thn, inBlk, if_true, reduceIte, Nat.reduceEqDiff])
    | (refine AWP.ret ?_; try dsimp only [thn, inBlk])
    | (refine AWP.condT ?_ ?_; (focus (simp [go_sem, h1, h2, h3, h4]; done)))
    | (refine AWP.condF ?_ ?_; (focus (simp [go_sem, h1, h2, h3, h4]; done)))
    | (apply AWP.rE; (focus (simp [go_sem, h1, h2, h3, h4]; exact ⟨rfl, rfl⟩)); try dsimp only [thn, inBlk])
    | fail)
  simp [bodyQ, thn, inBlk, resA, resV, go_sem]
end
def grantB (g : Gt) : Bool := nameB g.sv && lastsB g.st g.en g.fl
end L11
