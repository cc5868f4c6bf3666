import Derived.Test.YtfnlbcifdopnhaaDoorL11k
open Go Ab Go.Proofs
namespace L11
set_option autoImplicit false
set_option linter.unusedSimpArgs false
set_option linter.unusedVariables false

/-! ### What stays true -/
theorem CI.drop {L : CL} (h : CI L) (n : List UInt8) : CI (dropT L n) := h.sub List.filter_sublist
theorem set_none {L : CL} {e : Cr} (hg : get L e.g.sv = none) : setC L e = L ++ [(e.g.sv, e)] := by
  have hf : L.findIdx? (fun x => x.1 == e.g.sv) = none := by
    rw [List.findIdx?_eq_none_iff]
    intro x hx; simpa using get_none hg x hx
  simp only [setC, hf]
theorem set_some {L : CL} {e e0 : Cr} (hg : get L e.g.sv = some e0) : ∃ j : Nat, L[j]? = some (e.g.sv, e0) ∧ setC L e = L.set j (e.g.sv, e) := by
  obtain ⟨j, hj, hf⟩ := get_some hg
  exact ⟨j, hj, by simp only [setC, hf]⟩
theorem set_map {L : CL} {j : Nat} {p : List UInt8} {e e0 : Cr} (hj : L[j]? = some (p, e0)) : (L.set j (p, e)).map (·.1) = L.map (·.1) := by
  rw [List.map_set]
  apply List.ext_getElem?
  intro k
  rw [List.getElem?_set]
  split
  · rename_i e; subst e
    rw [List.getElem?_map, hj]
    rw [if_pos (by rw [List.length_map]; exact (List.getElem?_eq_some_iff.1 hj).1)]; rfl
  · rfl
theorem mem_setC {L : CL} {e : Cr} {x : List UInt8 × Cr} (h : x ∈ setC L e) : x = (e.g.sv, e) ∨ x ∈ L := by
  cases hg : get L e.g.sv with
  | none => rw [set_none hg] at h; rcases List.mem_append.1 h with h | h; exact .inr h; exact .inl (List.mem_singleton.1 h)
  | some e0 =>
    obtain ⟨j, hj, e1⟩ := set_some hg
    rw [e1] at h
    rcases List.mem_or_eq_of_mem_set h with h | h
    · exact .inr h
    · exact .inl h
theorem CI.setC {L : CL} (h : CI L) {e : Cr} (he : e.g.sv.length ≤ 1000000) (ht : e.tk.length ≤ 1000000) (hf : ¬ (get L e.g.sv = none ∧ 8 ≤ L.length)) : CI (L11.setC L e) := by
  have hmem : ∀ p ∈ L11.setC L e, p.1.length ≤ 1000000 ∧ p.2.g.sv = p.1 ∧ p.2.tk.length ≤ 1000000 := fun p hp => by
    rcases mem_setC hp with rfl | hp
    · exact ⟨he, rfl, ht⟩
    · exact ⟨h.kl p hp, h.kn p hp, h.tl p hp⟩
  cases hg : get L e.g.sv with
  | none =>
    have hl : L.length < 8 := by
      refine Nat.lt_of_not_le fun h => hf ⟨hg, h⟩
    refine ⟨?_, fun p hp => (hmem p hp).1, fun p hp => (hmem p hp).2.1, fun p hp => (hmem p hp).2.2, by rw [set_none hg]; simp; omega⟩
    rw [set_none hg, List.map_append, List.nodup_append]
    refine ⟨h.nd, by simp, fun a ha b hb e => ?_⟩
    obtain ⟨x, hx, rfl⟩ := List.mem_map.1 ha
    simp at hb
    exact get_none hg x hx (e.trans hb)
  | some e0 =>
    obtain ⟨j, hj, e1⟩ := set_some hg
    exact ⟨by rw [e1, set_map hj]; exact h.nd, fun p hp => (hmem p hp).1, fun p hp => (hmem p hp).2.1, fun p hp => (hmem p hp).2.2, by rw [e1, List.length_set]; exact h.mx⟩
theorem CI.put {L : CL} (h : CI L) {e : Cr} {now : Int} (he : e.g.sv.length ≤ 1000000) (ht : e.tk.length ≤ 1000000) : CI (putR L e now).2 := by
  unfold putR
  split
  · exact h
  split
  · exact h
  split
  · exact h.keep now
  · rename_i hf; exact (h.keep now).setC he ht hf
/-! ### The document's example -/
abbrev aB : List UInt8 := [97, 64, 82]
abbrev sB : List UInt8 := [115, 64, 82]
abbrev e0 : Cr := ⟨aB, [], ⟨sB, [], 0, 0, 10, 0⟩⟩
theorem buildG4 {s : List UInt8} {z : Int} : buildP Tryd.prog 32 [(0, tx s), (4, .int .i64 z)] = some (grV ⟨s, [], 0, 0, z, 0⟩) := by kernel_rfl
theorem buildG34 {s : List UInt8} {y z : Int} : buildP Tryd.prog 32 [(0, tx s), (3, .int .i64 y), (4, .int .i64 z)] = some (grV ⟨s, [], 0, y, z, 0⟩) := by kernel_rfl
theorem buildC02 {s t : List UInt8} {y z : Int} : buildP Tryd.prog 34 [(0, tx s), (2, grV ⟨t, [], 0, y, z, 0⟩)] = some (crV (⟨s, [], ⟨t, [], 0, y, z, 0⟩⟩, zP)) := by kernel_rfl
theorem sp1 : putR [] e0 0 = (0, [(sB, e0)]) := by kernel_rfl
theorem sp2 : findR [(sB, e0)] sB 10 = (e0, true) := by kernel_rfl
theorem sp3 : findR [(sB, e0)] sB 11 = (zC, false) := by kernel_rfl
theorem nil_bytes (h : AHeap) : Bytes h (.slice none 0 0) [] := .inl ⟨rfl, rfl⟩
set_option maxHeartbeats 4000000 in
theorem speaks_calls {O : Old} {h : AHeap} {R : List Chunk} (k : Own O h R) : ACalls Tryd.prog 6 #[] h fun v h' => v = .bool true ∧ Own O h' R := by
  refine ACalls.of_awp (args := []) (n := 39) Tryd.func6 rfl rfl (by show 0 ≤ 39; omega) ?_
  (repeat' first
    | refine AWP.seq ?_
    | refine AWP.block ?_
    | (refine AWP.skip ?_; try dsimp only [thn, inBlk])
    | (refine AWP.exit ?_; try simp only [thn, inBlk, if_true, reduceIte, Nat.reduceEqDiff])
    | (refine AWP.ret ?_; try dsimp only [thn, inBlk])
    | (refine AWP.condT ?_ ?_; (focus (simp [go_sem]; done)))
    | (refine AWP.condF ?_ ?_; (focus (simp [go_sem]; done)))
    | (apply AWP.rE; (focus (simp [go_sem]; exact ⟨rfl, rfl⟩)); try dsimp only [thn, inBlk])
    | fail)
  refine AWP.callE (by simp [go_sem]; exact ⟨rfl, rfl, rfl, rfl, rfl⟩) (by kernel_rfl) ?_
  refine (new_calls k).mono ?_
  rintro r h1 ⟨i, rfl, k1⟩
  refine awpL_restE (by simp [go_sem]; exact ⟨rfl, rfl⟩) ?_; try dsimp only [thn, inBlk]
  (repeat' first
    | refine AWP.seq ?_
    | refine AWP.block ?_
    | (refine AWP.skip ?_; try dsimp only [thn, inBlk])
    | (refine AWP.exit ?_; try simp only [thn, inBlk, if_true, reduceIte, Nat.reduceEqDiff])
    | (refine AWP.ret ?_; try dsimp only [thn, inBlk])
    | (refine AWP.condT ?_ ?_; (focus (simp [go_sem]; done)))
    | (refine AWP.condF ?_ ?_; (focus (simp [go_sem]; done)))
    | (apply AWP.rE; (focus (simp [go_sem]; exact ⟨rfl, rfl⟩)); try dsimp only [thn, inBlk])
    | fail)
  have b3 : buildP Tryd.prog 32 [(0, .string ⟨#[115, 64, 82]⟩), (4, .int .i64 10)] = some (grV e0.g) := buildG4
  have b4 : buildP Tryd.prog 34 [(0, .string ⟨#[97, 64, 82]⟩), (2, grV e0.g)] = some (crV (e0, zP)) := buildC02
  refine AWP.callE (by simp [go_sem, ↓b3, ↓b4]; exact ⟨rfl, rfl, rfl, rfl, rfl⟩) (by kernel_rfl) ?_
  refine (put_calls (c := e0) (p := zP) (now := 0) CI.nil k1 (fun hh _ => nil_bytes hh) (by decide) (by decide) (by decide) (by decide)).mono ?_
  rintro r h2 ⟨rfl, k2⟩
  rw [sp1] at k2 ⊢
  have bi : CI [(sB, e0)] := by have := CI.nil.put (e := e0) (now := 0) (by decide) (by decide); rw [sp1] at this; exact this
  refine awpL_restE (by simp [go_sem]; exact ⟨rfl, rfl⟩) ?_; try dsimp only [thn, inBlk]
  (repeat' first
    | refine AWP.seq ?_
    | refine AWP.block ?_
    | (refine AWP.skip ?_; try dsimp only [thn, inBlk])
    | (refine AWP.exit ?_; try simp only [thn, inBlk, if_true, reduceIte, Nat.reduceEqDiff])
    | (refine AWP.ret ?_; try dsimp only [thn, inBlk])
    | (refine AWP.condT ?_ ?_; (focus (simp [go_sem]; done)))
    | (refine AWP.condF ?_ ?_; (focus (simp [go_sem]; done)))
    | (apply AWP.rE; (focus (simp [go_sem]; exact ⟨rfl, rfl⟩)); try dsimp only [thn, inBlk])
    | fail)
  refine AWP.callE (by simp [go_sem]; exact ⟨rfl, rfl, rfl, rfl, rfl⟩) (by kernel_rfl) ?_
  refine (find_calls (n := sB) (now := 10) bi k2 (by decide)).mono ?_
  rintro r h3 ⟨p3, rfl, k3⟩
  rw [sp2] at k3 ⊢
  have k4 := (k3.push (.row (cr e0 p3) 34 23 true false)).b2
  refine awpL_restE (by simp [go_sem, ↓allocC]; exact ⟨rfl, rfl⟩) ?_; try dsimp only [thn, inBlk]
  (repeat' first
    | refine AWP.seq ?_
    | refine AWP.block ?_
    | (refine AWP.skip ?_; try dsimp only [thn, inBlk])
    | (refine AWP.exit ?_; try simp only [thn, inBlk, if_true, reduceIte, Nat.reduceEqDiff])
    | (refine AWP.ret ?_; try dsimp only [thn, inBlk])
    | (refine AWP.condT ?_ ?_; (focus (simp [go_sem]; done)))
    | (refine AWP.condF ?_ ?_; (focus (simp [go_sem]; done)))
    | (apply AWP.rE; (focus (simp [go_sem]; exact ⟨rfl, rfl⟩)); try dsimp only [thn, inBlk])
    | fail)
  refine AWP.callE (by simp [go_sem]; exact ⟨rfl, rfl, rfl, rfl, rfl⟩) (by kernel_rfl) ?_
  refine (find_calls (n := sB) (now := 11) bi k4 (by decide)).mono ?_
  rintro r h5 ⟨p5, rfl, k5⟩
  rw [sp3] at k5 ⊢
  have k6 := (k5.push (.row (cr zC p5) 34 23 true false)).b2
  refine awpL_restE (by simp [go_sem, ↓allocC]; exact ⟨rfl, rfl⟩) ?_; try dsimp only [thn, inBlk]
  (repeat' first
    | refine AWP.seq ?_
    | refine AWP.block ?_
    | (refine AWP.skip ?_; try dsimp only [thn, inBlk])
    | (refine AWP.exit ?_; try simp only [thn, inBlk, if_true, reduceIte, Nat.reduceEqDiff])
    | (refine AWP.ret ?_; try dsimp only [thn, inBlk])
    | (refine AWP.condT ?_ ?_; (focus (simp [go_sem]; done)))
    | (refine AWP.condF ?_ ?_; (focus (simp [go_sem]; done)))
    | (apply AWP.rE; (focus (simp [go_sem]; exact ⟨rfl, rfl⟩)); try dsimp only [thn, inBlk])
    | fail)
  refine AWP.callE (by simp [go_sem]; exact ⟨rfl, rfl, rfl, rfl, rfl⟩) (by kernel_rfl) ?_
  refine (servers_calls bi k6).mono ?_
  rintro r h7 ⟨a7, c7, rfl, k7⟩
  rw [srvL_len]
  refine awpL_restE (by simp [go_sem]; exact ⟨rfl, rfl⟩) ?_; try dsimp only [thn, inBlk]
  (repeat' first
    | refine AWP.seq ?_
    | refine AWP.block ?_
    | (refine AWP.skip ?_; try dsimp only [thn, inBlk])
    | (refine AWP.exit ?_; try simp only [thn, inBlk, if_true, reduceIte, Nat.reduceEqDiff])
    | (refine AWP.ret ?_; try dsimp only [thn, inBlk])
    | (refine AWP.condT ?_ ?_; (focus (simp [go_sem]; done)))
    | (refine AWP.condF ?_ ?_; (focus (simp [go_sem]; done)))
    | (apply AWP.rE; (focus (simp [go_sem]; exact ⟨rfl, rfl⟩)); try dsimp only [thn, inBlk])
    | fail)
  simp [bodyQ, thn, inBlk, resA, resV, go_sem]
  exact k7.tail.tail.tail.tail.tail.tail
/-! ### The same ticket -/
theorem keyLits_u8s {P : Program} {t e : TypeId} {n d : Nat} (ht : P.underlying t = some (.array n e)) (he : P.underlying e = some (.int .u8)) (ce : P.cellsOf e = 1) (ct : P.cellsOf t = n) (bs : List UInt8) (hb : bs.length = n) :
    ∃ L, P.keyLits (d + 2) t (bs.map B) = some L := by
  unfold Program.keyLits
  simp only [ht, ce, Nat.mul_one]
  rw [if_pos (by rw [ct, List.length_map, hb])]
  have key : ∀ (is : List Nat), (∀ i ∈ is, i < n) → ∃ L, is.mapM (fun i => P.keyLits (d + 1) e (((bs.map B).drop i).take 1)) = some L := by
    intro is
    induction is with
    | nil => exact fun _ => ⟨[], rfl⟩
    | cons i is ih =>
      intro h
      obtain ⟨L, hL⟩ := ih fun j hj => h j (by simp [hj])
      have hi : i < bs.length := by rw [hb]; exact h i (by simp)
      have e1 : ((bs.map B).drop i).take 1 = [B bs[i]] := by
        rw [List.drop_eq_getElem_cons (by simpa using hi)]
        simp
      have e2 : P.keyLits (d + 1) e [B bs[i]] = some [.int .u8 bs[i].toNat] := by
        unfold Program.keyLits
        simp only [he, B]
        rw [if_pos ⟨trivial, by simp [Lit.wf, IntKind.min, IntKind.max, IntKind.signed, IntKind.bits]; have := bs[i].toNat_lt; omega⟩]
      rw [List.mapM_cons, e1, e2, hL]
      exact ⟨_, rfl⟩
  obtain ⟨L, hL⟩ := key (List.range n) (fun i hi => List.mem_range.1 hi)
  rw [hL]
  exact ⟨_, rfl⟩
structure Gt.Wf (g : Gt) : Prop where
  sv : g.sv.length ≤ 9223372036854775807
  ky : g.ky.length = 16
  no : g.no < 18446744073709551616
  st : -9223372036854775808 ≤ g.st ∧ g.st ≤ 9223372036854775807
  en : -9223372036854775808 ≤ g.en ∧ g.en ≤ 9223372036854775807
  fl : -9223372036854775808 ≤ g.fl ∧ g.fl ≤ 9223372036854775807
unseal gr in
theorem gr_lit (g : Gt) (h : g.Wf) : ∃ l, keyOf Tryd.prog 32 (grV g) = some l := by
  have hk : Tryd.prog.keyType 32 = true := by kernel_rfl
  have c32 : Tryd.prog.cellsOf 32 = 21 := by kernel_rfl
  have c9 : Tryd.prog.cellsOf 9 = 1 := by kernel_rfl
  have c2 : Tryd.prog.cellsOf 2 = 1 := by kernel_rfl
  have c3 : Tryd.prog.cellsOf 3 = 1 := by kernel_rfl
  have c30 : Tryd.prog.cellsOf 30 = 1 := by kernel_rfl
  have c29 : Tryd.prog.cellsOf 29 = 16 := by kernel_rfl
  have c5 : Tryd.prog.cellsOf 5 = 1 := by kernel_rfl
  have hsz : ∃ m, Tryd.prog.types.size + 1 = m + 3 := ⟨Tryd.prog.types.size - 2, by have : 2 ≤ Tryd.prog.types.size := of_decide_eq_true (by kernel_rfl); omega⟩
  obtain ⟨m, hm⟩ := hsz
  have hl := gr_len (g := g)
  obtain ⟨L, hL⟩ := keyLits_u8s (d := m) Tryd.underlying29 Tryd.underlying5 c5 c29 (k16 g.ky) (k16_len _)
  have hm' : maxLen = 9223372036854775807 := by decide
  have h0 := h.sv
  have h1 := h.no
  have h2 := h.st
  have h3 := h.en
  have h4 := h.fl
  unfold keyOf
  simp only [Tryd.underlying32, hk, Value.formed, c32, Value.cells, List.size_toArray, hl]
  rw [if_pos (by simp)]
  rw [hm]
  unfold Program.keyLits
  simp only [Tryd.underlying32, c32, hl, c9, c2, c3, c30, c29]
  rw [if_pos (by simp)]
  have k9 : Tryd.prog.keyLits (m + 2) 9 [.string ⟨g.sv.toArray⟩] = some [.string g.sv] := by
    unfold Program.keyLits
    simp only [Tryd.underlying9]
    have : ByteArray.size ⟨g.sv.toArray⟩ = g.sv.length := rfl
    rw [if_pos (by rw [this, hm']; omega)]
  have kno : Tryd.prog.keyLits (m + 2) 30 [.int .u64 g.no] = some [.int .u64 g.no] := by
    unfold Program.keyLits
    simp only [Tryd.underlying30]
    rw [if_pos ⟨trivial, by simp [Lit.wf, IntKind.min, IntKind.max, IntKind.signed, IntKind.bits]; omega⟩]
  have kst : Tryd.prog.keyLits (m + 2) 2 [.int .i64 g.st] = some [.int .i64 g.st] := by
    unfold Program.keyLits
    simp only [Tryd.underlying2]
    rw [if_pos ⟨trivial, by simp [Lit.wf, IntKind.min, IntKind.max, IntKind.signed, IntKind.bits]; omega⟩]
  have ken : Tryd.prog.keyLits (m + 2) 2 [.int .i64 g.en] = some [.int .i64 g.en] := by
    unfold Program.keyLits
    simp only [Tryd.underlying2]
    rw [if_pos ⟨trivial, by simp [Lit.wf, IntKind.min, IntKind.max, IntKind.signed, IntKind.bits]; omega⟩]
  have kfl : Tryd.prog.keyLits (m + 2) 3 [.int .i64 g.fl] = some [.int .i64 g.fl] := by
    unfold Program.keyLits
    simp only [Tryd.underlying3]
    rw [if_pos ⟨trivial, by simp [Lit.wf, IntKind.min, IntKind.max, IntKind.signed, IntKind.bits]; omega⟩]
  have g1 : (gr g).tail.take 16 = (k16 g.ky).map B := by
    show ((k16 g.ky).map B ++ _).take 16 = _
    rw [List.take_append_of_le_length (by simp [k16_len]), List.take_of_length_le (by simp [k16_len])]
  have g17 : ((gr g).drop 17).take 1 = [.int .u64 g.no] := by
    rw [List.drop_eq_getElem_cons (by rw [hl]; omega), List.take_succ_cons, List.take_zero, gr_g17]
  have g18 : ((gr g).drop 18).take 1 = [.int .i64 g.st] := by
    rw [List.drop_eq_getElem_cons (by rw [hl]; omega), List.take_succ_cons, List.take_zero, gr_g18]
  have g19 : ((gr g).drop 19).take 1 = [.int .i64 g.en] := by
    rw [List.drop_eq_getElem_cons (by rw [hl]; omega), List.take_succ_cons, List.take_zero, gr_g19]
  have g20 : ((gr g).drop 20).take 1 = [.int .i64 g.fl] := by
    rw [List.drop_eq_getElem_cons (by rw [hl]; omega), List.take_succ_cons, List.take_zero, gr_g20]
  have g0 : (gr g).take 1 = [tx g.sv] := rfl
  simp [c9, c2, c3, c30, c29, k9, kno, kst, ken, kfl, g0, g1, g17, g18, g19, g20, hL]
theorem grEq : EqLaw Tryd.prog 32 := EqLaw.deep (m := 3) (by kernel_rfl) (by omega) (of_decide_eq_true (by kernel_rfl)) (by kernel_rfl) (by kernel_rfl) (by kernel_rfl)
open Classical in
theorem gr_eq {g : Gt} (h : g.Wf) : aggEqR Tryd.prog .eql 32 (grV g) (grV g) = some (.bool true) := by
  unfold aggEqR
  rw [if_pos ⟨grEq, gr_flat, gr_flat, ⟨_, rfl⟩, ⟨_, rfl⟩, gr_lit g h, gr_lit g h⟩]
  simp
set_option maxHeartbeats 4000000 in
theorem same_calls {O : Old} {h : AHeap} {R : List Chunk} {c : Cr} {p q : Pl} (k : Own O h R) (hw : aggEqR Tryd.prog .eql 32 (grV c.g) (grV c.g) = some (.bool true)) (hp : ∀ h, Own O h R → Bytes h (tkV c p) c.tk) (hq : ∀ h, Own O h R → Bytes h (tkV c q) c.tk) :
    ACalls Tryd.prog 12 #[crV (c, p), crV (c, q)] h fun v h' => v = .bool true ∧ Own O h' R := by
  refine ACalls.of_awp (args := [crV (c, p), crV (c, q)]) (n := 26) Tryd.func12 rfl rfl (by show 2 ≤ 26; omega) ?_
  have k2 : Own O _ (cell (h.next + 1) (.row (cr c q) 34 23 true false) :: cell h.next (.row (cr c p) 34 23 true false) :: R) := (k.push (.row (cr c p) 34 23 true false)).push (.row (cr c q) 34 23 true false)
  have c2 := k2.obj
  have c3 := k2.b1.obj
  have s1 := (hp _ k2.tail.tail).str (P := Tryd.prog) Tryd.underlying27 Tryd.underlying5 Tryd.underlying9
  have s2 := (hq _ k2.tail.tail).str (P := Tryd.prog) Tryd.underlying27 Tryd.underlying5 Tryd.underlying9
  (repeat' first
    | refine AWP.seq ?_
    | refine AWP.block ?_
    | (refine AWP.skip ?_; try dsimp only [thn, inBlk])
    | (refine AWP.exit ?_; try simp only [thn, inBlk, if_true, reduceIte, Nat.reduceEqDiff])
    | (refine AWP.ret ?_; try dsimp only [thn, inBlk])
    | (refine AWP.condT ?_ ?_; (focus (simp [go_sem, c2, c3, s1, s2, hw]; done)))
    | (refine AWP.condF ?_ ?_; (focus (simp [go_sem, c2, c3, s1, s2, hw]; done)))
    | (apply AWP.rE; (focus (simp [go_sem, c2, c3, s1, s2, hw]; exact ⟨rfl, rfl⟩)); try dsimp only [thn, inBlk])
    | fail)
  simp [bodyQ, thn, inBlk, resA, resV, go_sem]
  exact k2.tail.tail
end L11
