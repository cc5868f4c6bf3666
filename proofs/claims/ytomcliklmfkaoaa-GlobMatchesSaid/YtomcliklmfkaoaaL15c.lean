import Derived.Test.YtomcliklmfkaoaaL15b
open Go Ab Go.Proofs
namespace L15
set_option autoImplicit false
set_option linter.unusedSimpArgs false
set_option linter.unusedVariables false

/-! ### Patterns -/
theorem clsGo_len : ∀ (s : List UInt8) {rs : List (UInt8 × UInt8)} {r : List UInt8}, clsGo s = some (rs, r) → r.length ≤ s.length ∧ rs.length ≤ s.length := fun s rs r h => by
  match e : stp s with
  | .stop => rw [clsGo_stop e] at h; cases h; exact ⟨Nat.le_refl _, by simp⟩
  | .bad => rw [clsGo_bad e] at h; cases h
  | .one a b t =>
    have hl := stp_len e
    rw [clsGo_one e] at h
    simp only [Option.map_eq_some_iff] at h
    obtain ⟨⟨rs', r'⟩, h1, h2⟩ := h
    cases h2
    have := clsGo_len t h1
    simp only [List.length_cons]
    omega
termination_by s => s.length
theorem cls_len {s r : List UInt8} {p : Pt} (h : cls s = some (p, r)) : r.length < s.length + 1 ∧ p.rs.length ≤ s.length := by
  unfold cls at h
  split at h
  · cases h
  · rename_i rs r' h1
    split at h
    · cases h
    · rename_i h2
      cases h
      have := clsGo_len _ h1
      have hb : (bang s).2.length ≤ s.length := by
        unfold bang; split
        · split <;> simp
        · simp
      simp only [List.length_tail]
      omega

def lit (c : UInt8) : Pt := ⟨0, [(c, c)], false⟩
def anyP : Pt := ⟨1, [], false⟩
def runP : Pt := ⟨3, [], false⟩
inductive Tok
  | fin
  | bad
  | one (p : Pt) (r : List UInt8)
def tok : List UInt8 → Tok
  | [] => .fin
  | c :: t => if c = 42 then .one runP t else if c = 63 then .one anyP t else if c = 91 then (match cls t with | none => .bad | some (p, r) => .one p r)
      else if c = 92 then (match t with | [] => .bad | x :: r => .one (lit x) r) else .one (lit c) t
theorem tok_cons (c : UInt8) (t : List UInt8) : tok (c :: t) = if c = 42 then .one runP t else if c = 63 then .one anyP t else if c = 91 then (match cls t with | none => .bad | some (p, r) => .one p r)
      else if c = 92 then (match t with | [] => .bad | x :: r => .one (lit x) r) else .one (lit c) t := rfl
theorem tok_len {s r : List UInt8} {p : Pt} (h : tok s = .one p r) : r.length < s.length ∧ p.rs.length ≤ s.length := by
  unfold tok at h
  split at h
  · cases h
  · rename_i c t
    split at h
    · cases h; simp [runP]
    · split at h
      · cases h; simp [anyP]
      · split at h
        · split at h
          · cases h
          · rename_i p' r' hc
            cases h
            have := cls_len hc
            simp only [List.length_cons]; omega
        · split at h
          · split at h
            · cases h
            · cases h; simp [lit]; omega
          · cases h; simp [lit]
def prs (s : List UInt8) : Option (List Pt) :=
  match h : tok s with
  | .fin => some []
  | .bad => none
  | .one p r => (prs r).map (p :: ·)
termination_by s.length
decreasing_by exact (tok_len h).1
theorem prs_fin {s : List UInt8} (h : tok s = .fin) : prs s = some [] := by
  rw [prs]; split <;> rename_i h' <;> rw [h] at h' <;> first | rfl | cases h'
theorem prs_bad {s : List UInt8} (h : tok s = .bad) : prs s = none := by
  rw [prs]; split <;> rename_i h' <;> rw [h] at h' <;> first | rfl | cases h'
theorem prs_one {s r : List UInt8} {p : Pt} (h : tok s = .one p r) : prs s = (prs r).map (p :: ·) := by
  rw [prs]; split <;> rename_i h' <;> rw [h] at h' <;> first | (cases h'; rfl) | cases h'

/-- What a pattern is read as: its parts, and the error. -/
def parseR (s : List UInt8) : List Pt × Int :=
  if 32 < s.length then ([], 23) else match prs s with
    | none => ([], 21)
    | some ps => (ps, 0)

abbrev NILW : Value := .slice none 0 0
def prow (p : Pt) (w : Value) : List Value := [.int .i64 p.kd, w, .bool p.ng]
abbrev psub (p : Pt) (w : Value) : Chunk := rng w p.rs
abbrev pts (v : Value) (ps : List Pt) : Chunk := grecs prow psub 43 3 v ps



set_option maxHeartbeats 8000000 in
theorem parse_calls {O : Old} {h : AHeap} {R : List Chunk} {s : List UInt8} (k : Own O h R) (hl : s.length ≤ 1000000) :
    ACalls Try.prog 16 #[.string ⟨s.toArray⟩] h fun v h' => ∃ a c, v = .tuple #[.slice a (parseR s).1.length c, .int .i64 (parseR s).2] ∧ Own O h' (pts (.slice a (parseR s).1.length c) (parseR s).1 :: R) := by
  refine ACalls.of_awp (args := [.string ⟨s.toArray⟩]) (n := 52) Try.func16 rfl rfl (by show 1 ≤ 52; omega) ?_
  by_cases h32 : 32 < s.length
  · have h32' : (32 : Int) < s.length := by omega
    have e : parseR s = ([], 23) := by simp [parseR, h32]
    rw [e]
    (repeat' first
      | refine AWP.seq ?_
      | refine AWP.block ?_
      | (refine AWP.skip ?_; try dsimp only [thn, inBlk])
      | (refine AWP.exit ?_; try simp only [thn, inBlk, if_true, reduceIte, Nat.reduceEqDiff])
      | (refine AWP.ret ?_; try dsimp only [thn, inBlk])
      | (refine AWP.condT ?_ ?_; (focus (simp [go_sem, h32']; done)))
      | (refine AWP.condF ?_ ?_; (focus (simp [go_sem, h32']; done)))
      | (apply AWP.rE; (focus (simp [go_sem, h32']; exact ⟨rfl, rfl⟩)); try dsimp only [thn, inBlk])
      | (apply AWP.dE hmix [.n 0 [0], .n 1 [38], .n 2 [0], .n 3 [40], .n 4 [39], .n 5 [41]]; (focus kernel_rfl); (focus (simp [go_sem, h32']; exact ⟨rfl, rfl⟩)); try dsimp only [thn, inBlk])
      | fail)
    simp [bodyQ, thn, inBlk, resA, resV, go_sem]
    exact ⟨_, _, ⟨rfl, rfl⟩, k.grecs_nil 43 3⟩
  have h32' : ¬ (32 : Int) < s.length := by omega
  have e : parseR s = match prs s with | none => ([], 21) | some ps => (ps, 0) := by simp [parseR, h32]
  rw [e]
  (repeat' first
    | refine AWP.seq ?_
    | refine AWP.block ?_
    | (refine AWP.skip ?_; try dsimp only [thn, inBlk])
    | (refine AWP.exit ?_; try simp only [thn, inBlk, if_true, reduceIte, Nat.reduceEqDiff])
    | (refine AWP.ret ?_; try dsimp only [thn, inBlk])
    | (refine AWP.condT ?_ ?_; (focus (simp [go_sem, h32']; done)))
    | (refine AWP.condF ?_ ?_; (focus (simp [go_sem, h32']; done)))
    | (apply AWP.rE; (focus (simp [go_sem, h32']; exact ⟨rfl, rfl⟩)); try dsimp only [thn, inBlk])
    | (apply AWP.dE hmix [.n 0 [0], .n 1 [38], .n 2 [0], .n 3 [40], .n 4 [39], .n 5 [41]]; (focus kernel_rfl); (focus (simp [go_sem, h32']; exact ⟨rfl, rfl⟩)); try dsimp only [thn, inBlk])
    | fail)
  refine AWP.loopR [0, 2] (fun m s' h' => ∃ (l : List UInt8) (acc : List Pt) (a : Option Addr) (c : Nat), m = l.length ∧ prs s = (prs l).map (fun q => acc ++ q) ∧ l.length + acc.length ≤ 32 ∧ s' = ⟨52, [(0, .string ⟨l.toArray⟩), (2, .slice a acc.length c)]⟩ ∧
    Own O h' (pts (.slice a acc.length c) acc :: R)) ?_ ?_
  · exact ⟨_, s, [], none, 0, rfl, by simp, by simp; omega, by simp [go_sem], k.grecs_nil 43 3⟩
  rintro m s' h3 ⟨l, acc, va, vc, rfl, hpr, hlen, rfl, kt⟩
  match hlm : l with
  | [] =>
    rw [prs_fin (s := []) rfl] at hpr
    simp only [Option.map_some, List.append_nil] at hpr
    rw [hpr]
    (repeat' first
      | refine AWP.seq ?_
      | refine AWP.block ?_
      | (refine AWP.skip ?_; try dsimp only [thn, inBlk])
      | (refine AWP.exit ?_; try simp only [thn, inBlk, if_true, reduceIte, Nat.reduceEqDiff])
      | (refine AWP.ret ?_; try dsimp only [thn, inBlk])
      | (refine AWP.condT ?_ ?_; (focus (simp [go_sem]; done)))
      | (refine AWP.condF ?_ ?_; (focus (simp [go_sem]; done)))
      | (apply AWP.rE; (focus (simp [go_sem]; exact ⟨rfl, rfl⟩)); try dsimp only [thn, inBlk])
      | (apply AWP.dE hmix [.n 0 [0], .n 1 [38], .n 2 [0], .n 3 [40], .n 4 [39], .n 5 [41]]; (focus kernel_rfl); (focus (simp [go_sem]; exact ⟨rfl, rfl⟩)); try dsimp only [thn, inBlk])
      | fail)
    simp [bodyQ, thn, inBlk, resA, resV, go_sem]
    exact ⟨_, _, ⟨rfl, rfl⟩, kt⟩
  | c :: t =>
    have i0 := sidx0 (l := c :: t) rfl
    have i1 := sdrop1 (l := c :: t) rfl
    have i2 := sne (l := c :: t) rfl
    have i3 : ((c :: t : List UInt8) != []) = true := rfl
    have hlL : t.length + 1 = (c :: t : List UInt8).length := by simp
    have htok := tok_cons c t
    generalize hL : c :: t = L at *
    by_cases h42 : c = 42
    · have g42 : ((c.toNat : Int) == 42) = true := by rw [h42]; rfl
      have ht : tok L = .one runP t := by rw [htok, if_pos h42]
      have kn : Own O h3 (psub runP NILW :: pts (.slice va acc.length vc) acc :: R) := kt.nil 48 2
      have kk := kn.push (.row (prow runP NILW) 43 3 true false)
      have hh9 : ∃ h9, h9 = h3.push (.row (prow runP NILW) 43 3 true false) := ⟨_, rfl⟩
      obtain ⟨h9, hh9⟩ := hh9
      rw [← hh9] at kk
      rw [prs_one (s := L) ht] at hpr
      have hok : (prow runP NILW).all okCell = true := rfl
      have K0 : Own O h9 (pts (.slice va acc.length vc) acc :: psub runP NILW :: cell h3.next (.row (prow runP NILW) 43 3 true false) :: R) := by (refine Own.sbl ?_ (kk); repeat' first | exact Sbl.nil _ | with_reducible exact Sbl.rfl _ | (apply Sbl.cons) | (apply Sbl.skip) | with_reducible exact Fnd.head _ _ | (apply Fnd.tail))
      obtain ⟨na, nc, h7, e7, k7⟩ := Own.grecs_app (P := Try.prog) (t := 38) (xt := 38) (x := runP) (w := NILW) (row := prow) (sub := psub) Try.underlying38 tsz43 tby43 tz43 nI38 (by omega) (by omega) rfl rfl hok K0 rfl (by omega)
      have c8 := kk.obj
      simp only [prow, runP, anyP, lit] at e7 c8
      rw [hh9] at e7 c8
      simp only [push_next, prow, runP] at e7 c8
      (repeat' first
        | refine AWP.seq ?_
        | refine AWP.block ?_
        | (refine AWP.skip ?_; try dsimp only [thn, inBlk])
        | (refine AWP.exit ?_; try simp only [thn, inBlk, if_true, reduceIte, Nat.reduceEqDiff])
        | (refine AWP.ret ?_; try dsimp only [thn, inBlk])
        | (refine AWP.condT ?_ ?_; (focus (simp [go_sem, i0, i1, i2, i3, g42, e7, c8]; done)))
        | (refine AWP.condF ?_ ?_; (focus (simp [go_sem, i0, i1, i2, i3, g42, e7, c8]; done)))
        | (apply AWP.rE; (focus (simp [go_sem, i0, i1, i2, i3, g42, e7, c8]; exact ⟨rfl, rfl⟩)); try dsimp only [thn, inBlk])
        | (apply AWP.dE hmix [.n 0 [0], .n 1 [38], .n 2 [0], .n 3 [40], .n 4 [39], .n 5 [41]]; (focus kernel_rfl); (focus (simp [go_sem, i0, i1, i2, i3, g42, e7, c8]; exact ⟨rfl, rfl⟩)); try dsimp only [thn, inBlk])
        | fail)
      refine ⟨(t : List UInt8).length, by omega, t, acc ++ [runP], na, nc, rfl, ?_, ?_, ?_, ?_⟩
      · rw [hpr]; cases prs (t : List UInt8) <;> simp
      · simp; omega
      · simp [go_sem]
      · rw [List.length_append, List.length_singleton]; exact k7.d1
    by_cases h63 : c = 63
    · have g63 : ((c.toNat : Int) == 63) = true := by rw [h63]; rfl
      have g42 : ((c.toNat : Int) == 42) = false := neI (d := 42) h42
      have ht : tok L = .one anyP t := by rw [htok, if_neg h42, if_pos h63]
      have kn : Own O h3 (psub anyP NILW :: pts (.slice va acc.length vc) acc :: R) := kt.nil 48 2
      have kk := kn.push (.row (prow anyP NILW) 43 3 true false)
      have hh9 : ∃ h9, h9 = h3.push (.row (prow anyP NILW) 43 3 true false) := ⟨_, rfl⟩
      obtain ⟨h9, hh9⟩ := hh9
      rw [← hh9] at kk
      rw [prs_one (s := L) ht] at hpr
      have hok : (prow anyP NILW).all okCell = true := rfl
      have K0 : Own O h9 (pts (.slice va acc.length vc) acc :: psub anyP NILW :: cell h3.next (.row (prow anyP NILW) 43 3 true false) :: R) := by (refine Own.sbl ?_ (kk); repeat' first | exact Sbl.nil _ | with_reducible exact Sbl.rfl _ | (apply Sbl.cons) | (apply Sbl.skip) | with_reducible exact Fnd.head _ _ | (apply Fnd.tail))
      obtain ⟨na, nc, h7, e7, k7⟩ := Own.grecs_app (P := Try.prog) (t := 38) (xt := 38) (x := anyP) (w := NILW) (row := prow) (sub := psub) Try.underlying38 tsz43 tby43 tz43 nI38 (by omega) (by omega) rfl rfl hok K0 rfl (by omega)
      have c8 := kk.obj
      simp only [prow, runP, anyP, lit] at e7 c8
      rw [hh9] at e7 c8
      simp only [push_next, prow, anyP] at e7 c8
      (repeat' first
        | refine AWP.seq ?_
        | refine AWP.block ?_
        | (refine AWP.skip ?_; try dsimp only [thn, inBlk])
        | (refine AWP.exit ?_; try simp only [thn, inBlk, if_true, reduceIte, Nat.reduceEqDiff])
        | (refine AWP.ret ?_; try dsimp only [thn, inBlk])
        | (refine AWP.condT ?_ ?_; (focus (simp [go_sem, i0, i1, i2, i3, g42, g63, e7, c8]; done)))
        | (refine AWP.condF ?_ ?_; (focus (simp [go_sem, i0, i1, i2, i3, g42, g63, e7, c8]; done)))
        | (apply AWP.rE; (focus (simp [go_sem, i0, i1, i2, i3, g42, g63, e7, c8]; exact ⟨rfl, rfl⟩)); try dsimp only [thn, inBlk])
        | (apply AWP.dE hmix [.n 0 [0], .n 1 [38], .n 2 [0], .n 3 [40], .n 4 [39], .n 5 [41]]; (focus kernel_rfl); (focus (simp [go_sem, i0, i1, i2, i3, g42, g63, e7, c8]; exact ⟨rfl, rfl⟩)); try dsimp only [thn, inBlk])
        | fail)
      refine ⟨(t : List UInt8).length, by omega, t, acc ++ [anyP], na, nc, rfl, ?_, ?_, ?_, ?_⟩
      · rw [hpr]; cases prs (t : List UInt8) <;> simp
      · simp; omega
      · simp [go_sem]
      · rw [List.length_append, List.length_singleton]; exact k7.d1
    have g63 : ((c.toNat : Int) == 63) = false := neI (d := 63) h63
    have g42 : ((c.toNat : Int) == 42) = false := neI (d := 42) h42
    by_cases h91 : c = 91
    · have g91 : ((c.toNat : Int) == 91) = true := by rw [h91]; rfl
      rw [if_neg h42, if_neg h63, if_pos h91] at htok
      have k5 := kt.push (.row [.int .i64 0, .slice none 0 0, .bool false] 43 3 true false)
      (repeat' first
        | refine AWP.seq ?_
        | refine AWP.block ?_
        | (refine AWP.skip ?_; try dsimp only [thn, inBlk])
        | (refine AWP.exit ?_; try simp only [thn, inBlk, if_true, reduceIte, Nat.reduceEqDiff])
        | (refine AWP.ret ?_; try dsimp only [thn, inBlk])
        | (refine AWP.condT ?_ ?_; (focus (simp [go_sem, i0, i1, i2, i3, g42, g63, g91]; done)))
        | (refine AWP.condF ?_ ?_; (focus (simp [go_sem, i0, i1, i2, i3, g42, g63, g91]; done)))
        | (apply AWP.rE; (focus (simp [go_sem, i0, i1, i2, i3, g42, g63, g91]; exact ⟨rfl, rfl⟩)); try dsimp only [thn, inBlk])
        | (apply AWP.dE hmix [.n 0 [0], .n 1 [38], .n 2 [0], .n 3 [40], .n 4 [39], .n 5 [41]]; (focus kernel_rfl); (focus (simp [go_sem, i0, i1, i2, i3, g42, g63, g91]; exact ⟨rfl, rfl⟩)); try dsimp only [thn, inBlk])
        | fail)
      refine AWP.callE (by simp [go_sem]; exact ⟨rfl, rfl, rfl, rfl, rfl⟩) (by kernel_rfl) ?_
      refine (class_calls (s := t) k5 (by omega)).mono ?_
      rintro v h5 hv
      cases hcl : cls t with
      | none =>
        rw [hcl] at hv htok
        obtain ⟨a, n, cc, ng, st, rfl, k6⟩ := hv
        rw [prs_bad (s := L) htok] at hpr
        simp only [Option.map_none] at hpr
        rw [hpr]
        have c9 := k6.obj
        have k7 := k6.set (.row [.int .i64 2, .slice a n cc, .bool ng] 43 3 true false)
        refine awpL_restE (by simp [go_sem, c9]; exact ⟨rfl, rfl⟩) ?_; try dsimp only [thn, inBlk]
        (repeat' first
          | refine AWP.seq ?_
          | refine AWP.block ?_
          | (refine AWP.skip ?_; try dsimp only [thn, inBlk])
          | (refine AWP.exit ?_; try simp only [thn, inBlk, if_true, reduceIte, Nat.reduceEqDiff])
          | (refine AWP.ret ?_; try dsimp only [thn, inBlk])
          | (refine AWP.condT ?_ ?_; (focus (simp [go_sem]; done)))
          | (refine AWP.condF ?_ ?_; (focus (simp [go_sem]; done)))
          | (apply AWP.rE; (focus (simp [go_sem]; exact ⟨rfl, rfl⟩)); try dsimp only [thn, inBlk])
          | (apply AWP.dE hmix [.n 0 [0], .n 1 [38], .n 2 [0], .n 3 [40], .n 4 [39], .n 5 [41]]; (focus kernel_rfl); (focus (simp [go_sem]; exact ⟨rfl, rfl⟩)); try dsimp only [thn, inBlk])
          | fail)
        simp [bodyQ, thn, inBlk, resA, resV, go_sem]
        exact ⟨_, _, ⟨rfl, rfl⟩, k7.tail.tail.grecs_nil 43 3⟩
      | some q =>
        obtain ⟨p, r⟩ := q
        rw [hcl] at hv htok
        obtain ⟨w, rfl, k6⟩ := hv
        have ht : tok L = .one p r := htok
        have hlr := tok_len ht
        obtain ⟨wa, wc, rfl⟩ := Own.os_val k6
        have c9 := k6.b1.obj
        have kk := k6.b1.set (.row (prow p (.slice wa p.rs.length wc)) 43 3 true false)
        have hh9 : ∃ h9, h9 = h5.set h3.next (.row (prow p (.slice wa p.rs.length wc)) 43 3 true false) := ⟨_, rfl⟩
        obtain ⟨h9, hh9⟩ := hh9
        rw [← hh9] at kk
        rw [prs_one (s := L) ht] at hpr
        have hok : (prow p (.slice wa p.rs.length wc)).all okCell = true := rfl
        have K0 : Own O h9 (pts (.slice va acc.length vc) acc :: psub p (.slice wa p.rs.length wc) :: cell h3.next (.row (prow p (.slice wa p.rs.length wc)) 43 3 true false) :: R) := by (refine Own.sbl ?_ (kk); repeat' first | exact Sbl.nil _ | with_reducible exact Sbl.rfl _ | (apply Sbl.cons) | (apply Sbl.skip) | with_reducible exact Fnd.head _ _ | (apply Fnd.tail))
        obtain ⟨na, nc, h7, e7, k7⟩ := Own.grecs_app (P := Try.prog) (t := 38) (xt := 38) (x := p) (w := (.slice wa p.rs.length wc)) (row := prow) (sub := psub) Try.underlying38 tsz43 tby43 tz43 nI38 (by omega) (by omega) rfl rfl hok K0 rfl (by omega)
        have c8 := kk.obj
        simp only [prow, runP, anyP, lit] at e7 c8
        rw [hh9] at e7 c8
        simp only [set_next, prow] at e7 c8
        simp only [ptv]
        refine awpL_restE (by simp [go_sem, c9]; exact ⟨rfl, rfl⟩) ?_; try dsimp only [thn, inBlk]
        (repeat' first
          | refine AWP.seq ?_
          | refine AWP.block ?_
          | (refine AWP.skip ?_; try dsimp only [thn, inBlk])
          | (refine AWP.exit ?_; try simp only [thn, inBlk, if_true, reduceIte, Nat.reduceEqDiff])
          | (refine AWP.ret ?_; try dsimp only [thn, inBlk])
          | (refine AWP.condT ?_ ?_; (focus (simp [go_sem, e7, c8]; done)))
          | (refine AWP.condF ?_ ?_; (focus (simp [go_sem, e7, c8]; done)))
          | (apply AWP.rE; (focus (simp [go_sem, e7, c8]; exact ⟨rfl, rfl⟩)); try dsimp only [thn, inBlk])
          | (apply AWP.dE hmix [.n 0 [0], .n 1 [38], .n 2 [0], .n 3 [40], .n 4 [39], .n 5 [41]]; (focus kernel_rfl); (focus (simp [go_sem, e7, c8]; exact ⟨rfl, rfl⟩)); try dsimp only [thn, inBlk])
          | fail)
        refine ⟨(r : List UInt8).length, by omega, r, acc ++ [p], na, nc, rfl, ?_, ?_, ?_, ?_⟩
        · rw [hpr]; cases prs (r : List UInt8) <;> simp
        · simp; omega
        · simp [go_sem]
        · rw [List.length_append, List.length_singleton]; exact k7.d1
    have g91 : ((c.toNat : Int) == 91) = false := neI (d := 91) h91
    rw [if_neg h42, if_neg h63, if_neg h91] at htok
    -- a byte as such
    by_cases h92 : c = 92
    · have g92 : ((c.toNat : Int) == 92) = true := by rw [h92]; rfl
      rw [if_pos h92] at htok
      cases t with
      | nil =>
        rw [prs_bad (s := L) htok] at hpr
        simp only [Option.map_none] at hpr
        rw [hpr]
        have k7 := kt.push (.row [.int .i64 0, .slice none 0 0, .bool false] 43 3 true false)
        (repeat' first
          | refine AWP.seq ?_
          | refine AWP.block ?_
          | (refine AWP.skip ?_; try dsimp only [thn, inBlk])
          | (refine AWP.exit ?_; try simp only [thn, inBlk, if_true, reduceIte, Nat.reduceEqDiff])
          | (refine AWP.ret ?_; try dsimp only [thn, inBlk])
          | (refine AWP.condT ?_ ?_; (focus (simp [go_sem, i0, i1, i2, i3, g42, g63, g91, g92]; done)))
          | (refine AWP.condF ?_ ?_; (focus (simp [go_sem, i0, i1, i2, i3, g42, g63, g91, g92]; done)))
          | (apply AWP.rE; (focus (simp [go_sem, i0, i1, i2, i3, g42, g63, g91, g92]; exact ⟨rfl, rfl⟩)); try dsimp only [thn, inBlk])
          | (apply AWP.dE hmix [.n 0 [0], .n 1 [38], .n 2 [0], .n 3 [40], .n 4 [39], .n 5 [41]]; (focus kernel_rfl); (focus (simp [go_sem, i0, i1, i2, i3, g42, g63, g91, g92]; exact ⟨rfl, rfl⟩)); try dsimp only [thn, inBlk])
          | fail)
        simp [bodyQ, thn, inBlk, resA, resV, go_sem]
        exact ⟨_, _, ⟨rfl, rfl⟩, k7.tail.tail.grecs_nil 43 3⟩
      | cons x r =>
        have ht : tok L = .one (lit x) r := htok
        have j0 := sidx0 (l := x :: r) rfl
        have j1 := sdrop1 (l := x :: r) rfl
        have j2 := sne (l := x :: r) rfl
        have hlr : r.length < L.length := by simp at hlL; omega
        generalize x :: r = X at *
        have kb := kt.push (.row [.int .i64 0, .slice none 0 0, .bool false] 43 3 true false)
        have kr := kb.push (.row [.int .u8 x.toNat, .int .u8 x.toNat] 48 2 true false)
        have kn : Own O _ (psub (lit x) (.slice (some ⟨h3.next + 1, 0, none⟩) 1 1) :: _) := kr.os_mk (n := 1) (cap := 1) (off := 0) (cs := rg [(x, x)]) (Nat.le_refl _) (by simp) (by rfl)
        have c7 := kn.b1.obj
        have kk := kn.b1.set (.row (prow (lit x) (.slice (some ⟨h3.next + 1, 0, none⟩) 1 1)) 43 3 true false)
        have hh9 : ∃ h9, h9 = ((h3.push (.row [.int .i64 0, .slice none 0 0, .bool false] 43 3 true false)).push (.row [.int .u8 x.toNat, .int .u8 x.toNat] 48 2 true false)).set h3.next (.row (prow (lit x) (.slice (some ⟨h3.next + 1, 0, none⟩) 1 1)) 43 3 true false) := ⟨_, rfl⟩
        obtain ⟨h9, hh9⟩ := hh9
        rw [← hh9] at kk
        rw [prs_one (s := L) ht] at hpr
        have hok : (prow (lit x) (.slice (some ⟨h3.next + 1, 0, none⟩) 1 1)).all okCell = true := rfl
        have K0 : Own O h9 (pts (.slice va acc.length vc) acc :: psub (lit x) (.slice (some ⟨h3.next + 1, 0, none⟩) 1 1) :: cell h3.next (.row (prow (lit x) (.slice (some ⟨h3.next + 1, 0, none⟩) 1 1)) 43 3 true false) :: R) := by (refine Own.sbl ?_ (kk); repeat' first | exact Sbl.nil _ | with_reducible exact Sbl.rfl _ | (apply Sbl.cons) | (apply Sbl.skip) | with_reducible exact Fnd.head _ _ | (apply Fnd.tail))
        obtain ⟨na, nc, h7, e7, k7⟩ := Own.grecs_app (P := Try.prog) (t := 38) (xt := 38) (x := (lit x)) (w := (.slice (some ⟨h3.next + 1, 0, none⟩) 1 1)) (row := prow) (sub := psub) Try.underlying38 tsz43 tby43 tz43 nI38 (by omega) (by omega) rfl rfl hok K0 rfl (by omega)
        have c8 := kk.obj
        simp only [prow, runP, anyP, lit] at e7 c8
        rw [hh9] at e7 c8
        simp only [push_next, set_next, prow, lit] at e7 c8
        (repeat' first
          | refine AWP.seq ?_
          | refine AWP.block ?_
          | (refine AWP.skip ?_; try dsimp only [thn, inBlk])
          | (refine AWP.exit ?_; try simp only [thn, inBlk, if_true, reduceIte, Nat.reduceEqDiff])
          | (refine AWP.ret ?_; try dsimp only [thn, inBlk])
          | (refine AWP.condT ?_ ?_; (focus (simp [go_sem, i0, i1, i2, i3, j0, j1, j2, g42, g63, g91, g92, c7, e7, c8]; done)))
          | (refine AWP.condF ?_ ?_; (focus (simp [go_sem, i0, i1, i2, i3, j0, j1, j2, g42, g63, g91, g92, c7, e7, c8]; done)))
          | (apply AWP.rE; (focus (simp [go_sem, i0, i1, i2, i3, j0, j1, j2, g42, g63, g91, g92, c7, e7, c8]; exact ⟨rfl, rfl⟩)); try dsimp only [thn, inBlk])
          | (apply AWP.dE hmix [.n 0 [0], .n 1 [38], .n 2 [0], .n 3 [40], .n 4 [39], .n 5 [41]]; (focus kernel_rfl); (focus (simp [go_sem, i0, i1, i2, i3, j0, j1, j2, g42, g63, g91, g92, c7, e7, c8]; exact ⟨rfl, rfl⟩)); try dsimp only [thn, inBlk])
          | fail)
        refine ⟨(r : List UInt8).length, by omega, r, acc ++ [(lit x)], na, nc, rfl, ?_, ?_, ?_, ?_⟩
        · rw [hpr]; cases prs (r : List UInt8) <;> simp
        · simp; omega
        · simp [go_sem]
        · rw [List.length_append, List.length_singleton]; exact k7.d1
    · have g92 : ((c.toNat : Int) == 92) = false := neI (d := 92) h92
      rw [if_neg h92] at htok
      have ht : tok L = .one (lit c) t := htok
      have kb := kt.push (.row [.int .i64 0, .slice none 0 0, .bool false] 43 3 true false)
      have kr := kb.push (.row [.int .u8 c.toNat, .int .u8 c.toNat] 48 2 true false)
      have kn : Own O _ (psub (lit c) (.slice (some ⟨h3.next + 1, 0, none⟩) 1 1) :: _) := kr.os_mk (n := 1) (cap := 1) (off := 0) (cs := rg [(c, c)]) (Nat.le_refl _) (by simp) (by rfl)
      have c7 := kn.b1.obj
      have kk := kn.b1.set (.row (prow (lit c) (.slice (some ⟨h3.next + 1, 0, none⟩) 1 1)) 43 3 true false)
      have hh9 : ∃ h9, h9 = ((h3.push (.row [.int .i64 0, .slice none 0 0, .bool false] 43 3 true false)).push (.row [.int .u8 c.toNat, .int .u8 c.toNat] 48 2 true false)).set h3.next (.row (prow (lit c) (.slice (some ⟨h3.next + 1, 0, none⟩) 1 1)) 43 3 true false) := ⟨_, rfl⟩
      obtain ⟨h9, hh9⟩ := hh9
      rw [← hh9] at kk
      rw [prs_one (s := L) ht] at hpr
      have hok : (prow (lit c) (.slice (some ⟨h3.next + 1, 0, none⟩) 1 1)).all okCell = true := rfl
      have K0 : Own O h9 (pts (.slice va acc.length vc) acc :: psub (lit c) (.slice (some ⟨h3.next + 1, 0, none⟩) 1 1) :: cell h3.next (.row (prow (lit c) (.slice (some ⟨h3.next + 1, 0, none⟩) 1 1)) 43 3 true false) :: R) := by (refine Own.sbl ?_ (kk); repeat' first | exact Sbl.nil _ | with_reducible exact Sbl.rfl _ | (apply Sbl.cons) | (apply Sbl.skip) | with_reducible exact Fnd.head _ _ | (apply Fnd.tail))
      obtain ⟨na, nc, h7, e7, k7⟩ := Own.grecs_app (P := Try.prog) (t := 38) (xt := 38) (x := (lit c)) (w := (.slice (some ⟨h3.next + 1, 0, none⟩) 1 1)) (row := prow) (sub := psub) Try.underlying38 tsz43 tby43 tz43 nI38 (by omega) (by omega) rfl rfl hok K0 rfl (by omega)
      have c8 := kk.obj
      simp only [prow, runP, anyP, lit] at e7 c8
      rw [hh9] at e7 c8
      simp only [push_next, set_next, prow, lit] at e7 c8
      (repeat' first
        | refine AWP.seq ?_
        | refine AWP.block ?_
        | (refine AWP.skip ?_; try dsimp only [thn, inBlk])
        | (refine AWP.exit ?_; try simp only [thn, inBlk, if_true, reduceIte, Nat.reduceEqDiff])
        | (refine AWP.ret ?_; try dsimp only [thn, inBlk])
        | (refine AWP.condT ?_ ?_; (focus (simp [go_sem, i0, i1, i2, i3, g42, g63, g91, g92, c7, e7, c8]; done)))
        | (refine AWP.condF ?_ ?_; (focus (simp [go_sem, i0, i1, i2, i3, g42, g63, g91, g92, c7, e7, c8]; done)))
        | (apply AWP.rE; (focus (simp [go_sem, i0, i1, i2, i3, g42, g63, g91, g92, c7, e7, c8]; exact ⟨rfl, rfl⟩)); try dsimp only [thn, inBlk])
        | (apply AWP.dE hmix [.n 0 [0], .n 1 [38], .n 2 [0], .n 3 [40], .n 4 [39], .n 5 [41]]; (focus kernel_rfl); (focus (simp [go_sem, i0, i1, i2, i3, g42, g63, g91, g92, c7, e7, c8]; exact ⟨rfl, rfl⟩)); try dsimp only [thn, inBlk])
        | fail)
      refine ⟨(t : List UInt8).length, by omega, t, acc ++ [(lit c)], na, nc, rfl, ?_, ?_, ?_, ?_⟩
      · rw [hpr]; cases prs (t : List UInt8) <;> simp
      · simp; omega
      · simp [go_sem]
      · rw [List.length_append, List.length_singleton]; exact k7.d1
end L15
