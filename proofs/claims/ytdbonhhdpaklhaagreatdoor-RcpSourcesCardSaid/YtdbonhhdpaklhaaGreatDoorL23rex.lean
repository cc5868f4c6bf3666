import Derived.Test.YtdbonhhdpaklhaaGreatDoorL23rcx
section
open Go Ab Go.Proofs
namespace L23
set_option autoImplicit false
set_option linter.unusedSimpArgs false
set_option linter.unusedVariables false
/-! ### How long a stream is -/
theorem path_slashes {p : List UInt8} (h : pathB p = true) : p.count 47 ≤ 6 := by
  by_cases h1 : p = [47]
  · subst h1; decide
  · obtain ⟨r, rfl, hl, _⟩ := path_names h h1
    rw [splitB_length] at hl
    rw [List.count_cons_self]; omega
theorem path_slash {p : List UInt8} (h : pathB p = true) : 1 ≤ p.count 47 := by
  have h0 := pathB_head h
  cases p with
  | nil => simp at h0
  | cons a t => simp at h0; subst h0; rw [List.count_cons_self]; omega
theorem rd_len {T : TL} (hT : TS T) (who p : List UInt8) : (rdR T who p).2.length ≤ 1000 := by
  unfold rdR
  split
  · cases hg : get T p with
    | none => simp
    | some nd =>
      dsimp only
      split
      · simp
      · split
        · simp
        · have := hT.dl _ (mem_of_get hg); exact this
  · simp
theorem line_len (c : UInt8) (mode size : Nat) (name : List UInt8) : (lineB c mode size name).length ≤ name.length + 10 := by
  have := (dg_len size).1
  unfold lineB; simp; omega
theorem base_len (p : List UInt8) : (base p).length ≤ p.length := by unfold base; rw [List.length_drop]; omega
theorem cat_len {f : List UInt8 → Int × List UInt8} {M : Nat} (h : ∀ y, (f y).2.length ≤ M) : ∀ l : List (List UInt8), (catR f l).length ≤ l.length * M
  | [] => by simp [catR]
  | x :: l => by
    have := cat_len h l
    have h1 := h x
    rw [catR] at this ⊢
    simp only [List.map_cons, List.flatten_cons, List.length_append, List.length_cons, Nat.succ_mul]
    omega
theorem kids_le {T : TL} (hT : TS T) (p : List UInt8) : (srt (kids T p)).length ≤ 64 := by
  have e : (srt (kids T p)).length = (kids T p).length := by
    show (List.mergeSort _ _).length = _
    rw [List.length_mergeSort]
  rw [e]
  unfold kids
  rw [List.length_map]
  have h1 := List.length_filter_le (kidP p) (T.map (·.1))
  rw [List.length_map] at h1
  have := hT.mx
  omega
theorem count_join (p y : List UInt8) : (p ++ 47 :: y).count 47 ≥ p.count 47 + 1 := by
  rw [List.count_append, List.count_cons_self]; omega
theorem kidsR_len {f : List UInt8 → Int × List UInt8} : ∀ l : List (List UInt8), (kidsR f l).2.length ≤ (catR f l).length
  | [] => by simp [kidsR]
  | x :: l => by
    have := kidsR_len (f := f) l
    have e : catR f (x :: l) = (f x).2 ++ catR f l := by simp [catR]
    rw [kidsR, e, List.length_append]
    split
    · split
      · rw [List.length_append]; omega
      · simp
    · simp
theorem find_top {T : TL} {who p : List UInt8} (h : findE T who p = 0) : ∃ nd, get T p = some nd ∧ (p, nd) ∈ T := by
  obtain ⟨nd, hg⟩ := find_get h
  exact ⟨nd, hg, mem_of_get hg⟩
def Big (p : List UInt8) : Nat := 1400 * 65 ^ (7 - p.count 47)
theorem Big_kid {p y : List UInt8} (h : (p ++ 47 :: y).count 47 ≤ 6) : 65 * Big (p ++ 47 :: y) ≤ Big p := by
  have h1 := count_join p y
  unfold Big
  have e : 7 - p.count 47 = (7 - p.count 47 - 1) + 1 := by omega
  rw [e, Nat.pow_succ]
  have : 65 ^ (7 - (p ++ 47 :: y).count 47) ≤ 65 ^ (7 - p.count 47 - 1) := Nat.pow_le_pow_right (by omega) (by omega)
  generalize 65 ^ (7 - (p ++ 47 :: y).count 47) = a at *
  generalize 65 ^ (7 - p.count 47 - 1) = b at *
  omega
theorem Big_one (p : List UInt8) (h : p.count 47 ≤ 6) : 1400 * 65 ≤ Big p := by
  unfold Big
  have e : 7 - p.count 47 = (7 - p.count 47 - 1) + 1 := by omega
  rw [e, Nat.pow_succ]
  have : 1 ≤ 65 ^ (7 - p.count 47 - 1) := Nat.one_le_iff_ne_zero.2 (by simp)
  generalize 65 ^ (7 - p.count 47 - 1) = b at *
  omega
theorem Big_top {p : List UInt8} (h : pathB p = true) : Big p ≤ 1400 * 65 ^ 6 := by
  have := path_slash h
  unfold Big
  have : 65 ^ (7 - p.count 47) ≤ 65 ^ 6 := Nat.pow_le_pow_right (by omega) (by omega)
  generalize 65 ^ (7 - p.count 47) = a at *
  omega
def KidM (p : List UInt8) : Nat := 1400 * 65 ^ (7 - p.count 47 - 1)
theorem str_len {T : TL} (hT : TS T) (who : List UInt8) : ∀ (d : Nat) (x : List UInt8 × Nd), pathB x.1 = true → x.1 ≠ [47] → x.1.length ≤ 300 → (strR T who d x).2.length ≤ Big x.1
  | 0, x, _, _, _ => by simp [strR]
  | d + 1, x, hp, h1, hl => by
    have hB := Big_one x.1 (path_slashes hp)
    have hb := base_len x.1
    rw [strR]
    split
    · split
      · split
        · have hk : ∀ y, (kidR T who (strR T who d) (joinB x.1 y)).2.length ≤ Big x.1 / 65 := fun y => by
            unfold kidR
            split
            · rename_i hf
              obtain ⟨nd, hg, hm⟩ := find_top hf
              rw [hg]
              dsimp only
              rw [joinB_path hp h1] at hm ⊢
              have hp2 := hT.pa _ hm
              have := str_len hT who d (x.1 ++ 47 :: y, nd) hp2 (by
                intro e; have e2 := congrArg List.length e; simp at e2
                have h3 : x.1 ≠ [] := by intro e2; rw [e2] at hp; exact absurd hp (by decide)
                have := List.length_pos_iff.2 h3
                omega) (hT.ps _ hm)
              have h2 := Big_kid (p := x.1) (y := y) (path_slashes hp2)
              dsimp only at this
              omega
            · simp
          have hc := cat_len hk (srt (kids T x.1))
          have hq := kidsR_len (f := fun y => kidR T who (strR T who d) (joinB x.1 y)) (srt (kids T x.1))
          have hkl := kids_le hT x.1
          have hln := line_len 68 x.2.mode 0 (base x.1)
          have hm : (srt (kids T x.1)).length * (Big x.1 / 65) ≤ 64 * (Big x.1 / 65) := Nat.mul_le_mul_right _ hkl
          simp only [List.length_append, List.length_cons, List.length_nil]
          omega
        · simp
      · simp
    · split
      · have hd := rd_len hT who x.1
        have hln := line_len 67 x.2.mode (rdR T who x.1).2.length (base x.1)
        simp only [List.length_append, List.length_cons, List.length_nil]
        omega
      · simp
theorem kid_len {T : TL} (hT : TS T) (who : List UInt8) {d : Nat} {p : List UInt8} (hp : pathB p = true) (h1 : p ≠ [47]) (y : List UInt8) : (kidR T who (strR T who d) (joinB p y)).2.length ≤ Big p / 65 := by
  unfold kidR
  split
  · rename_i hf
    obtain ⟨nd, hg, hm⟩ := find_top hf
    rw [hg]
    dsimp only
    rw [joinB_path hp h1] at hm ⊢
    have hp2 := hT.pa _ hm
    have := str_len hT who d (p ++ 47 :: y, nd) hp2 (by
      intro e; have e2 := congrArg List.length e; simp at e2
      have h3 : p ≠ [] := by intro e2; rw [e2] at hp; exact absurd hp (by decide)
      have := List.length_pos_iff.2 h3
      omega) (hT.ps _ hm)
    have h2 := Big_kid (p := p) (y := y) (path_slashes hp2)
    dsimp only at this
    omega
  · simp
end L23
end

section
open Go Ab Go.Proofs
namespace L23
set_option autoImplicit false
set_option linter.unusedSimpArgs false
set_option linter.unusedVariables false
section
variable {O : Old} {R : List Chunk} {i : Nat} {T : TL} {who : List UInt8}
/-! ### The program's stream -/
def StrP (O : Old) (R : List Chunk) (i : Nat) (T : TL) (y : Int × List UInt8) (r : Value) (h' : AHeap) : Prop :=
  ∃ a cap, r = .tuple #[.slice a y.2.length cap, .int .i64 y.1] ∧ Own O h' (ob 5 (.slice a y.2.length cap) y.2 :: tr i T :: R)
theorem StrP.bad {h : AHeap} {e : Int} (k : Own O h (tr i T :: R)) : StrP O R i T (e, []) (.tuple #[.slice none 0 0, .int .i64 e]) h :=
  ⟨none, 0, rfl, k.nil 5 1⟩
set_option maxHeartbeats 32000000 in
theorem str_calls (hT : TS T) (g : GP O) (hw : who.length ≤ 1000000) : ∀ (d : Nat) {R : List Chunk} {h : AHeap} {z : NZ}, Own O h (tr i T :: R) → get T z.1.1 = some z.1.2 → z.1.1 ≠ [47] → 301 ≤ z.1.1.length + d →
    ACalls Tryz.prog 28 #[ptr i, tx who, .agg (nz z).toArray] h (StrP O R i T (strR T who d z.1))
  | 0, R, h, z, k, hg, h1, hd => by
    have := hT.ps _ (mem_of_get hg)
    dsimp only at this
    omega
  | d + 1, R, h, z, k, hg, h1, hd => by
    have hm := mem_of_get hg
    have hps := hT.ps _ hm
    have hpb := hT.pa _ hm
    have hmd := hT.md _ hm
    dsimp only at hps hpb hmd
    have hbl := base_len z.1.1
    obtain ⟨⟨p, nd⟩, w⟩ := z
    dsimp only at hps hpb hmd hg h1 hd hbl hm
    have hSL := str_len hT who (d + 1) (p, nd) hpb h1 hps
    have hSB := Big_top hpb
    refine ACalls.of_awp (args := [ptr i, tx who, .agg (nz ((p, nd), w)).toArray]) (n := 97) Tryz.func28 rfl rfl (by show 3 ≤ 97; omega) ?_
    have k1 := k.push (.row (nz ((p, nd), w)) 47 5 true false)
    have c1 := k1.obj
    have hle := lastN_le p 47 p.length
    have w1 : IntKind.i64.wrap (((lastN p 47 p.length : Nat) : Int) - 1 + 1) = ((lastN p 47 p.length : Nat) : Int) := by rw [wI64 (by omega) (by omega)]; omega
    have w1b : IntKind.i64.wrap ((lastN p 47 p.length : Nat) : Int) = ((lastN p 47 p.length : Nat) : Int) := by rw [wI64 (by omega) (by omega)]
    have s1 : ∀ hh : AHeap, sliceR Tryz.prog hh 9 (tx p) (some (.int .i64 ((lastN p 47 p.length : Nat) : Int))) none none = some (tx (base p)) := fun hh => by
      have := str_slice (P := Tryz.prog) (h := hh) Tryz.underlying9 (l := p) (lo := lastN p 47 p.length) (hi := p.length) (a := some (.int .i64 ((lastN p 47 p.length : Nat) : Int))) (u := none) hle (Nat.le_refl _) (.inr ⟨_, rfl⟩) (.inl ⟨rfl, rfl⟩)
      rw [List.take_length] at this; exact this
    (repeat' first
      | refine AWP.seq ?_
      | refine AWP.block ?_
      | (refine AWP.skip ?_; try dsimp only [thn, inBlk])
      | (refine AWP.exit ?_; try simp only [thn, inBlk, if_true, reduceIte, Nat.reduceEqDiff])
      | (refine AWP.ret ?_; try dsimp only [thn, inBlk])
      | (refine AWP.condT ?_ ?_; (focus (simp [go_sem]; done)))
      | (refine AWP.condF ?_ ?_; (focus (simp [go_sem]; done)))
      | (apply AWP.rE; (focus (simp [go_sem]; exact ⟨rfl, rfl⟩)); try dsimp only [thn, inBlk])
      | fail)
    refine AWP.draw hmix [.n 0 [5], .n 1 [18], .n 2 [5], .n 3 [20], .w 4 [21] [1], .n 5 [22], .n 6 [19, 23], .n 7 [24]] (by kernel_rfl) ?_
    refine awpD_callR 4 (by rfl) (by rfl) (by simp [go_sem, c1]; exact ⟨rfl, rfl, rfl⟩) (by rfl) (by rfl) (by simp [go_sem]) (by simp [go_sem, c1]; exact ⟨rfl, rfl⟩) (by kernel_rfl) ?_
    refine (lastb_calls (c := 47) (l := p) (by omega)).mono ?_
    rintro r h2 ⟨rfl, rfl⟩
    refine ⟨by simp [still, go_sem, c1], ?_⟩
    generalize lastN p 47 p.length = N at *
    refine awpD_restR (by rfl) (by simp [go_sem, c1, w1, w1b, s1]; exact ⟨rfl, rfl, rfl⟩) ?_; try dsimp only [thn, inBlk]
    cases hdir : nd.dir
    · have e1 : strR T who (d + 1) (p, nd) = if (rdR T who p).1 = 0 then (0, lineB 67 nd.mode (rdR T who p).2.length (base p) ++ (rdR T who p).2 ++ [0]) else ((rdR T who p).1, []) := by
        rw [strR]; simp only [hdir, Bool.false_eq_true, if_false]
      have hrl := rd_len hT who p
      (repeat' first
        | refine AWP.seq ?_
        | refine AWP.block ?_
        | (refine AWP.skip ?_; try dsimp only [thn, inBlk])
        | (refine AWP.exit ?_; try simp only [thn, inBlk, if_true, reduceIte, Nat.reduceEqDiff])
        | (refine AWP.ret ?_; try dsimp only [thn, inBlk])
        | (refine AWP.condT ?_ ?_; (focus (simp [go_sem, c1, hdir]; done)))
        | (refine AWP.condF ?_ ?_; (focus (simp [go_sem, c1, hdir]; done)))
        | (apply AWP.rE; (focus (simp [go_sem, c1, hdir]; exact ⟨rfl, rfl⟩)); try dsimp only [thn, inBlk])
        | fail)
      refine AWP.callE (by simp [go_sem, c1]; exact ⟨rfl, rfl, rfl, rfl, rfl⟩) (by kernel_rfl) ?_
      refine (read_calls (who := who) (p := p) hT.toTK k1.b1 (by omega)).mono ?_
      rintro r h3 ⟨a3, n3, rfl, k3⟩
      have c3 := k3.b2.obj
      by_cases he : (rdR T who p).1 = 0
      · rw [if_pos he] at e1
        rw [e1] at hSL ⊢
        have he' : ((rdR T who p).1 != 0) = false := by simpa using he
        generalize (rdR T who p).1 = y1 at *
        generalize (rdR T who p).2 = dt at *
        refine awpL_restE (by simp [go_sem]; exact ⟨rfl, rfl⟩) ?_; try dsimp only [thn, inBlk]
        (repeat' first
          | refine AWP.seq ?_
          | refine AWP.block ?_
          | (refine AWP.skip ?_; try dsimp only [thn, inBlk])
          | (refine AWP.exit ?_; try simp only [thn, inBlk, if_true, reduceIte, Nat.reduceEqDiff])
          | (refine AWP.ret ?_; try dsimp only [thn, inBlk])
          | (refine AWP.condT ?_ ?_; (focus (simp [go_sem, he']; done)))
          | (refine AWP.condF ?_ ?_; (focus (simp [go_sem, he']; done)))
          | (apply AWP.rE; (focus (simp [go_sem, he']; exact ⟨rfl, rfl⟩)); try dsimp only [thn, inBlk])
          | fail)
        refine AWP.callE (by simp [go_sem, c3]; exact ⟨rfl, rfl, rfl, rfl, rfl⟩) (by kernel_rfl) ?_
        refine (line_calls g (c := 67) (mode := nd.mode) (size := dt.length) (name := base p) k3 hmd hrl (by omega)).mono ?_
        rintro r h5 ⟨a5, n5, rfl, k5⟩
        have hll := line_len 67 nd.mode dt.length (base p)
        have dsrc := k5.tail.ob_bytes.src
        generalize lineB 67 nd.mode dt.length (base p) = ln at *
        obtain ⟨a6, n6, h6, e6, k6⟩ := k5.appB (P := Tryz.prog) (t := 32) (xt := 32) Tryz.underlying32 tsz5 tby5 tz5 nI32 dsrc (by omega)
        obtain ⟨a7, n7, h7, e7, k7⟩ := Own.appB1 (P := Tryz.prog) (t := 32) (xt := 32) (c := 0) Tryz.underlying32 tsz5 tby5 tz5 nI32 k6 rfl (by simp; omega)
        have hl6 : (ln ++ dt).length = ln.length + dt.length := by simp
        rw [hl6] at k7 e7
        have e7' : appendW Tryz.prog (h6.push (.row [.int .u8 0] 5 1 true false)) 32 32 (.slice a6 (ln.length + dt.length) n6) (.slice (some ⟨h6.next, 0, none⟩) 1 1) = some (.slice a7 (ln.length + dt.length + 1) n7, h7) := e7
        have k8 : Own O h7 (ob 5 (.slice a7 (ln.length + dt.length + 1) n7) (ln ++ dt ++ [0]) :: tr i T :: R) := by
          (refine Own.sbl ?_ (k7); repeat' first | exact Sbl.nil _ | with_reducible exact Sbl.rfl _ | (apply Sbl.cons) | (apply Sbl.skip) | with_reducible exact Fnd.head _ _ | (apply Fnd.tail))
        have hl7 : (ln ++ dt ++ [0]).length = ln.length + dt.length + 1 := by simp; omega
        have kS : StrP O R i T (0, ln ++ dt ++ [0]) (.tuple #[.slice a7 (ln.length + dt.length + 1) n7, .int .i64 0]) h7 := by
          rw [← hl7] at k8 ⊢
          exact ⟨a7, n7, rfl, k8⟩
        generalize ln ++ dt ++ [0] = L at *
        refine awpL_restE (by simp [go_sem, e6, e7']; exact ⟨rfl, rfl⟩) ?_; try dsimp only [thn, inBlk]
        (repeat' first
          | refine AWP.seq ?_
          | refine AWP.block ?_
          | (refine AWP.skip ?_; try dsimp only [thn, inBlk])
          | (refine AWP.exit ?_; try simp only [thn, inBlk, if_true, reduceIte, Nat.reduceEqDiff])
          | (refine AWP.ret ?_; try dsimp only [thn, inBlk])
          | (refine AWP.condT ?_ ?_; (focus (simp [go_sem]; done)))
          | (refine AWP.condF ?_ ?_; (focus (simp [go_sem]; done)))
          | (apply AWP.rE; (focus (simp [go_sem]; exact ⟨rfl, rfl⟩)); try dsimp only [thn, inBlk])
          | fail)
        simp [bodyQ, thn, inBlk, resA, resV, go_sem]
        exact kS
      · rw [if_neg he] at e1
        rw [e1]
        have he' : ((rdR T who p).1 != 0) = true := by simpa using he
        have k4 := StrP.bad (e := (rdR T who p).1) k3.tail.b1.tail
        generalize (rdR T who p).1 = y1 at *
        generalize (rdR T who p).2 = dt at *
        refine awpL_restE (by simp [go_sem]; exact ⟨rfl, rfl⟩) ?_; try dsimp only [thn, inBlk]
        (repeat' first
          | refine AWP.seq ?_
          | refine AWP.block ?_
          | (refine AWP.skip ?_; try dsimp only [thn, inBlk])
          | (refine AWP.exit ?_; try simp only [thn, inBlk, if_true, reduceIte, Nat.reduceEqDiff])
          | (refine AWP.ret ?_; try dsimp only [thn, inBlk])
          | (refine AWP.condT ?_ ?_; (focus (simp [go_sem, he']; done)))
          | (refine AWP.condF ?_ ?_; (focus (simp [go_sem, he']; done)))
          | (apply AWP.rE; (focus (simp [go_sem, he']; exact ⟨rfl, rfl⟩)); try dsimp only [thn, inBlk])
          | fail)
        simp [bodyQ, thn, inBlk, resA, resV, go_sem]
        exact k4
    · have e1 : strR T who (d + 1) (p, nd) = if lsE T who p = 0 then (if (kidsR (fun y => kidR T who (strR T who d) (joinB p y)) (srt (kids T p))).1 = 0 then (0, lineB 68 nd.mode 0 (base p) ++ (kidsR (fun y => kidR T who (strR T who d) (joinB p y)) (srt (kids T p))).2 ++ [69, 10]) else ((kidsR (fun y => kidR T who (strR T who d) (joinB p y)) (srt (kids T p))).1, [])) else (lsE T who p, []) := by
        rw [strR]; simp only [hdir, if_true]
      have hkl := kids_le hT p
      have hkn : ∀ y ∈ srt (kids T p), y.length ≤ 1000 := fun y hy => by
        have h2 := (List.mergeSort_perm (kids T p) Go.leB).mem_iff.1 hy
        unfold kids at h2
        obtain ⟨q, hq, rfl⟩ := List.mem_map.1 h2
        have h3 := (List.mem_filter.1 hq).1
        obtain ⟨x, hx, rfl⟩ := List.mem_map.1 h3
        have := hT.ps x hx
        have := base_len x.1
        omega
      (repeat' first
        | refine AWP.seq ?_
        | refine AWP.block ?_
        | (refine AWP.skip ?_; try dsimp only [thn, inBlk])
        | (refine AWP.exit ?_; try simp only [thn, inBlk, if_true, reduceIte, Nat.reduceEqDiff])
        | (refine AWP.ret ?_; try dsimp only [thn, inBlk])
        | (refine AWP.condT ?_ ?_; (focus (simp [go_sem, c1, hdir]; done)))
        | (refine AWP.condF ?_ ?_; (focus (simp [go_sem, c1, hdir]; done)))
        | (apply AWP.rE; (focus (simp [go_sem, c1, hdir]; exact ⟨rfl, rfl⟩)); try dsimp only [thn, inBlk])
        | fail)
      refine AWP.callE (by simp [go_sem, c1]; exact ⟨rfl, rfl, rfl, rfl, rfl⟩) (by kernel_rfl) ?_
      refine (list_calls (who := who) (p := p) hT.toTK k1.b1 (by omega)).mono ?_
      rintro r h3 ⟨a3, n3, S, rfl, hS0, hS1, k3⟩
      have c3 := k3.b2.obj
      have hSl : S.length ≤ 64 := by
        by_cases q : lsE T who p = 0
        · rw [hS0 q]; exact hkl
        · rw [hS1 q]; simp
      have hSn : ∀ y ∈ S, y.length ≤ 1000 := fun y hy => by
        by_cases q : lsE T who p = 0
        · rw [hS0 q] at hy; exact hkn y hy
        · rw [hS1 q] at hy; simp at hy
      refine awpL_restE (by simp [go_sem]; exact ⟨rfl, rfl⟩) ?_; try dsimp only [thn, inBlk]
      (repeat' first
        | refine AWP.seq ?_
        | refine AWP.block ?_
        | (refine AWP.skip ?_; try dsimp only [thn, inBlk])
        | (refine AWP.exit ?_; try simp only [thn, inBlk, if_true, reduceIte, Nat.reduceEqDiff])
        | (refine AWP.ret ?_; try dsimp only [thn, inBlk])
        | (refine AWP.condT ?_ ?_; (focus (simp [go_sem]; done)))
        | (refine AWP.condF ?_ ?_; (focus (simp [go_sem]; done)))
        | (apply AWP.rE; (focus (simp [go_sem]; exact ⟨rfl, rfl⟩)); try dsimp only [thn, inBlk])
        | fail)
      refine AWP.callE (by simp [go_sem, c3]; exact ⟨rfl, rfl, rfl, rfl, rfl⟩) (by kernel_rfl) ?_
      refine (line_calls g (c := 68) (mode := nd.mode) (size := 0) (name := base p) k3 hmd (by omega) (by omega)).mono ?_
      rintro r h5 ⟨a5, n5, rfl, k5⟩
      have hll := line_len 68 nd.mode 0 (base p)
      generalize hln : lineB 68 nd.mode 0 (base p) = ln at *
      obtain ⟨f, hf⟩ : ∃ f, f = fun y => kidR T who (strR T who d) (joinB p y) := ⟨_, rfl⟩
      rw [← hf] at e1
      refine awpL_restE (by simp [go_sem]; exact ⟨rfl, rfl⟩) ?_; try dsimp only [thn, inBlk]
      (repeat' first
        | refine AWP.seq ?_
        | refine AWP.block ?_
        | (refine AWP.skip ?_; try dsimp only [thn, inBlk])
        | (refine AWP.exit ?_; try simp only [thn, inBlk, if_true, reduceIte, Nat.reduceEqDiff])
        | (refine AWP.ret ?_; try dsimp only [thn, inBlk])
        | (refine AWP.condT ?_ ?_; (focus (simp [go_sem]; done)))
        | (refine AWP.condF ?_ ?_; (focus (simp [go_sem]; done)))
        | (apply AWP.rE; (focus (simp [go_sem]; exact ⟨rfl, rfl⟩)); try dsimp only [thn, inBlk])
        | fail)
      refine AWP.loopR [0, 1, 5, 12, 13, 61, 62, 63] (fun m s h' => ∃ (j : Nat) (e : Int) (a : Option Addr) (cap : Nat) (out : List UInt8), j ≤ S.length ∧ m = S.length - j ∧ s = ⟨97, [(0, ptr i), (1, tx who), (5, ptr h.next), (12, .int .i64 e), (13, .slice a out.length cap), (61, .slice a3 S.length n3), (62, .int .i64 S.length), (63, .int .i64 j)]⟩ ∧
        (e = 0 → lsE T who p = 0 ∧ (∀ y ∈ S.take j, (f y).1 = 0) ∧ out = ln ++ catR f (S.take j)) ∧ (e ≠ 0 → strR T who (d + 1) (p, nd) = (e, [])) ∧ Own O h' (ob 5 (.slice a out.length cap) out :: txs (.slice a3 S.length n3) S :: cell h.next (.row (nz ((p, nd), w)) 47 5 true false) :: tr i T :: R)) ?_ ?_
      · refine ⟨_, 0, lsE T who p, a5, n5, ln, by omega, rfl, rfl, fun q => ⟨q, by simp, by simp [catR]⟩, fun q => ?_, ?_⟩
        · rw [e1, if_neg q]
        · (refine Own.sbl ?_ (k5); repeat' first | exact Sbl.nil _ | with_reducible exact Sbl.rfl _ | (apply Sbl.cons) | (apply Sbl.skip) | with_reducible exact Fnd.head _ _ | (apply Fnd.tail))
      rintro m s hA ⟨j, e, a, cap, out, hj, rfl, rfl, hi0, hi1, kA⟩
      have cA := kA.b2.obj
      have kT : Own O hA (tr i T :: R) := kA.tail.tail.tail
      by_cases he : e = 0
      rotate_left
      · have he' : (e != 0) = true := by simpa using he
        have kS : StrP O R i T (strR T who (d + 1) (p, nd)) (.tuple #[.slice none 0 0, .int .i64 e]) hA := by
          rw [hi1 he]; exact StrP.bad kT
        generalize strR T who (d + 1) (p, nd) = RS at *
        by_cases hjm : j < S.length
        · have hjm' : (j : Int) < S.length := by omega
          obtain ⟨i1, o1, c1', _, _, _, _, p1, q1, r1⟩ := kA.b1.os_sl.at1 (P := Tryz.prog) (t := 71) Tryz.underlying71 tsz9 hjm (lt_ptr hjm) (kd := .i64)
          generalize S[j] = y at *
          (repeat' first
            | refine AWP.seq ?_
            | refine AWP.block ?_
            | (refine AWP.skip ?_; try dsimp only [thn, inBlk])
            | (refine AWP.exit ?_; try simp only [thn, inBlk, if_true, reduceIte, Nat.reduceEqDiff])
            | (refine AWP.ret ?_; try dsimp only [thn, inBlk])
            | (refine AWP.condT ?_ ?_; (focus (simp [go_sem, hjm', hjm, p1, q1, r1, he']; done)))
            | (refine AWP.condF ?_ ?_; (focus (simp [go_sem, hjm', hjm, p1, q1, r1, he']; done)))
            | (apply AWP.rE; (focus (simp [go_sem, hjm', hjm, p1, q1, r1, he']; exact ⟨rfl, rfl⟩)); try dsimp only [thn, inBlk])
            | fail)
          simp [bodyQ, thn, inBlk, resA, resV, go_sem]
          exact kS
        · have hjm' : ¬ (j : Int) < S.length := by omega
          (repeat' first
            | refine AWP.seq ?_
            | refine AWP.block ?_
            | (refine AWP.skip ?_; try dsimp only [thn, inBlk])
            | (refine AWP.exit ?_; try simp only [thn, inBlk, if_true, reduceIte, Nat.reduceEqDiff])
            | (refine AWP.ret ?_; try dsimp only [thn, inBlk])
            | (refine AWP.condT ?_ ?_; (focus (simp [go_sem, hjm', hjm, he']; done)))
            | (refine AWP.condF ?_ ?_; (focus (simp [go_sem, hjm', hjm, he']; done)))
            | (apply AWP.rE; (focus (simp [go_sem, hjm', hjm, he']; exact ⟨rfl, rfl⟩)); try dsimp only [thn, inBlk])
            | fail)
          simp [bodyQ, thn, inBlk, resA, resV, go_sem]
          exact kS
      subst he
      obtain ⟨hls, hok, hout⟩ := hi0 rfl
      rw [if_pos hls] at e1
      have hSS := hS0 hls
      rw [← hSS] at e1
      clear hi0 hi1
      by_cases hjm : j < S.length
      rotate_left
      · have hjm' : ¬ (j : Int) < S.length := by omega
        have hjl : j = S.length := by omega
        subst hjl
        rw [List.take_length] at hok hout
        rw [kidsR_ok hok, if_pos rfl] at e1
        dsimp only at e1
        rw [← hout] at e1
        rw [e1] at hSL ⊢
        simp only [List.length_append, List.length_cons, List.length_nil] at hSL
        have hL2 : out.length + [(69 : UInt8), 10].length ≤ 140737488355328 := by
          simp only [List.length_cons, List.length_nil]
          exact Nat.le_trans hSL (Nat.le_trans hSB (by decide))
        obtain ⟨a6, n6, h6, e6, k6⟩ := kA.appB (P := Tryz.prog) (t := 32) (xt := 9) (xv := tx [69, 10]) (xs := [69, 10]) Tryz.underlying32 tsz5 tby5 tz5 nI9 rfl hL2
        have hl2 : [(69 : UInt8), 10].length = 2 := rfl
        rw [hl2] at e6 k6
        have kS : StrP O R i T (0, out ++ [69, 10]) (.tuple #[.slice a6 (out.length + 2) n6, .int .i64 0]) h6 := by
          have hl7 : (out ++ [69, 10]).length = out.length + 2 := by simp
          have k8 := (k6.d1).d1
          have k9 : Own O h6 (ob 5 (.slice a6 (out ++ [69, 10]).length n6) (out ++ [69, 10]) :: tr i T :: R) := by
            rw [hl7]; exact k8
          rw [← hl7]
          exact ⟨a6, n6, rfl, k9⟩
        have e6' : appendW Tryz.prog hA 32 9 (.slice a out.length cap) (.string ⟨#[69, 10]⟩) = some (.slice a6 (out.length + 2) n6, h6) := e6
        generalize out ++ [69, 10] = L at *
        (repeat' first
          | refine AWP.seq ?_
          | refine AWP.block ?_
          | (refine AWP.skip ?_; try dsimp only [thn, inBlk])
          | (refine AWP.exit ?_; try simp only [thn, inBlk, if_true, reduceIte, Nat.reduceEqDiff])
          | (refine AWP.ret ?_; try dsimp only [thn, inBlk])
          | (refine AWP.condT ?_ ?_; (focus (simp [go_sem, hjm', hjm, e6']; done)))
          | (refine AWP.condF ?_ ?_; (focus (simp [go_sem, hjm', hjm, e6']; done)))
          | (apply AWP.rE; (focus (simp [go_sem, hjm', hjm, e6']; exact ⟨rfl, rfl⟩)); try dsimp only [thn, inBlk])
          | fail)
        simp [bodyQ, thn, inBlk, resA, resV, go_sem]
        exact kS
      have hjm' : (j : Int) < S.length := by omega
      have hyn := hSn _ (List.getElem_mem hjm)
      have hsj : S[j]? = some S[j] := List.getElem?_eq_getElem hjm
      have w2 : IntKind.i64.wrap ((j : Int) + 1) = ((j + 1 : Nat) : Int) := by rw [wI64 (by omega) (by omega)]; omega
      obtain ⟨i1, o1, c1', _, _, _, _, p1, q1, r1⟩ := kA.b1.os_sl.at1 (P := Tryz.prog) (t := 71) Tryz.underlying71 tsz9 hjm (lt_ptr hjm) (kd := .i64)
      generalize S[j] = y at *
      have kB := kA.push (.row [.string ⟨#[]⟩, .bool false, .string ⟨#[]⟩, .int .i64 0, .slice none 0 0] 47 5 true false)
      have cB := kB.b3.obj
      have cK := kB.obj
      (repeat' first
        | refine AWP.seq ?_
        | refine AWP.block ?_
        | (refine AWP.skip ?_; try dsimp only [thn, inBlk])
        | (refine AWP.exit ?_; try simp only [thn, inBlk, if_true, reduceIte, Nat.reduceEqDiff])
        | (refine AWP.ret ?_; try dsimp only [thn, inBlk])
        | (refine AWP.condT ?_ ?_; (focus (simp [go_sem, hjm', hjm, p1, q1, r1]; done)))
        | (refine AWP.condF ?_ ?_; (focus (simp [go_sem, hjm', hjm, p1, q1, r1]; done)))
        | (apply AWP.rE; (focus (simp [go_sem, hjm', hjm, p1, q1, r1]; exact ⟨rfl, rfl⟩)); try dsimp only [thn, inBlk])
        | fail)
      refine AWP.callE (by simp [go_sem, cB]; exact ⟨rfl, rfl, rfl, rfl, rfl⟩) (by kernel_rfl) ?_
      refine (join_calls (d := p) (x := y) (by omega) (by omega)).mono ?_
      rintro r h7 ⟨rfl, rfl⟩
      refine awpL_toCall (by simp [go_sem, cB]; exact ⟨rfl, rfl, rfl, rfl, rfl⟩) (by kernel_rfl) ?_
      have hjl : (joinB p y).length ≤ 900000 := by
        rw [joinB_path hpb h1]; simp; omega
      refine (stat_calls (who := who) (p := joinB p y) hT.toTK kB.b4 hjl).mono ?_
      rintro r h8 ⟨z, rfl, hz, k8⟩
      have hfy : f y = kidR T who (strR T who d) (joinB p y) := by rw [hf]
      have hkm := kid_len (d := d) hT who hpb h1
      have hbnd : ∀ b : List UInt8, (f y).2 = b → out.length + b.length ≤ 140737488355328 := fun b e => by
        have q1 := hkm y
        rw [← hfy, e] at q1
        have q2 := cat_len (f := f) (M := Big p / 65) (fun x => by rw [hf]; exact hkm x) (S.take j)
        have q3 : (S.take j).length * (Big p / 65) ≤ 63 * (Big p / 65) := Nat.mul_le_mul_right _ (by rw [List.length_take]; omega)
        rw [hout, List.length_append]
        have q4 : Big p ≤ 105586446875000 := Nat.le_trans hSB (by decide)
        omega
      have kR := k8.b2
      have cR := kR.obj
      have kC := kR.set (.row [tx z.1.1, .bool z.1.2.dir, tx z.1.2.own, .int .i64 z.1.2.mode, .slice z.2.1 z.1.2.data.length z.2.2] 47 5 true false)
      have cC := kC.obj
      have hst : ∀ (e2 : Int) (b : List UInt8), f y = (e2, b) → (e2 = 0 → lsE T who p = 0 ∧ (∀ y ∈ S.take (j + 1), (f y).1 = 0) ∧ out ++ b = ln ++ catR f (S.take (j + 1))) ∧ (e2 ≠ 0 → strR T who (d + 1) (p, nd) = (e2, [])) := fun e2 b e => by
        refine ⟨fun q => ⟨hls, ?_, ?_⟩, fun q => ?_⟩
        · exact take_ok hok hsj (by rw [e]; exact q)
        · rw [catR_succ hsj, e, hout, List.append_assoc]
        · have hb := kidsR_bad hok hsj (by rw [e]; exact q)
          rw [e1, hb, e]
          dsimp only
          rw [if_neg q]
      by_cases hfe : findE T who (joinB p y) = 0
      · rcases hz with ⟨_, hz1, hz2⟩ | ⟨hz0, _⟩
        rotate_left
        · exact absurd hfe hz0
        have hfz : f y = strR T who d z.1 := by
          rw [hfy, kidR, if_pos hfe, hz2]; obtain ⟨⟨zp, zn⟩, zw⟩ := z; dsimp only at hz1 ⊢; rw [hz1]
        have hzne : z.1.1 ≠ [47] := by
          rw [hz1, joinB_path hpb h1]
          intro e; have e2 := congrArg List.length e; simp at e2
          have h3 : p ≠ [] := by intro e2; rw [e2] at hpb; exact absurd hpb (by decide)
          have := List.length_pos_iff.2 h3
          omega
        have hzd : 301 ≤ z.1.1.length + d := by
          rw [hz1, joinB_path hpb h1]; simp; omega
        have hfe' : (findE T who (joinB p y) == 0) = true := by simpa using hfe
        generalize findE T who (joinB p y) = fe at *
        refine awpL_restE (by simp [go_sem, cR]; exact ⟨rfl, rfl⟩) ?_; try dsimp only [thn, inBlk]
        (repeat' first
          | refine AWP.seq ?_
          | refine AWP.block ?_
          | (refine AWP.skip ?_; try dsimp only [thn, inBlk])
          | (refine AWP.exit ?_; try simp only [thn, inBlk, if_true, reduceIte, Nat.reduceEqDiff])
          | (refine AWP.ret ?_; try dsimp only [thn, inBlk])
          | (refine AWP.condT ?_ ?_; (focus (simp [go_sem, hfe, hfe']; done)))
          | (refine AWP.condF ?_ ?_; (focus (simp [go_sem, hfe, hfe']; done)))
          | (apply AWP.rE; (focus (simp [go_sem, hfe, hfe']; exact ⟨rfl, rfl⟩)); try dsimp only [thn, inBlk])
          | fail)
        refine AWP.callE (by simp [go_sem, cC]; exact ⟨rfl, rfl, rfl, rfl, rfl⟩) (by kernel_rfl) ?_
        refine (str_calls hT g hw d (z := z) kC.b2 (by rw [hz1]; exact hz2) hzne hzd).mono ?_
        rintro r h9 ⟨a2, n2, rfl, kD⟩
        rw [← hfz] at kD ⊢
        have hkb := hbnd (f y).2 rfl
        obtain ⟨hs0, hs1⟩ := hst (f y).1 (f y).2 rfl
        generalize f y = fy at *
        obtain ⟨e2, b⟩ := fy
        dsimp only at kD hkb hs0 hs1 ⊢
        have bsrc := kD.ob_bytes.src
        obtain ⟨a6, n6, h6, e6, k6⟩ := (kD.b4).appB (P := Tryz.prog) (t := 32) (xt := 32) Tryz.underlying32 tsz5 tby5 tz5 nI32 bsrc hkb
        have hlb : (out ++ b).length = out.length + b.length := by simp
        rw [← hlb] at e6 k6
        generalize out ++ b = out2 at *
        refine awpL_restE (by simp [go_sem]; exact ⟨rfl, rfl⟩) ?_; try dsimp only [thn, inBlk]
        (repeat' first
          | refine AWP.seq ?_
          | refine AWP.block ?_
          | (refine AWP.skip ?_; try dsimp only [thn, inBlk])
          | (refine AWP.exit ?_; try simp only [thn, inBlk, if_true, reduceIte, Nat.reduceEqDiff])
          | (refine AWP.ret ?_; try dsimp only [thn, inBlk])
          | (refine AWP.condT ?_ ?_; (focus (simp [go_sem, e6, w2]; done)))
          | (refine AWP.condF ?_ ?_; (focus (simp [go_sem, e6, w2]; done)))
          | (apply AWP.rE; (focus (simp [go_sem, e6, w2]; exact ⟨rfl, rfl⟩)); try dsimp only [thn, inBlk])
          | fail)
        simp [bodyQ, thn, inBlk, resA, resV, go_sem]
        refine ⟨S.length - (j + 1), by omega, j + 1, by omega, rfl, e2, a6, n6, out2, ⟨rfl, ⟨rfl, rfl, rfl⟩, by omega⟩, hs0, hs1, k6.d1.d2.d2.b1.p3⟩
      · rcases hz with ⟨hz0, _⟩ | ⟨_, _⟩
        · exact absurd hz0 hfe
        have hfz : f y = (findE T who (joinB p y), []) := by rw [hfy, kidR, if_neg hfe]
        have hfe' : (findE T who (joinB p y) == 0) = false := by simpa using hfe
        generalize findE T who (joinB p y) = fe at *
        have kD := (kC.b2).nil 5 1
        have hkb := hbnd (f y).2 rfl
        obtain ⟨hs0, hs1⟩ := hst (f y).1 (f y).2 rfl
        rw [hfz] at hs0 hs1
        dsimp only at hs0 hs1
        rw [List.append_nil] at hs0
        have hk2 : out.length + ([] : List UInt8).length ≤ 140737488355328 := by rw [List.length_nil]; omega
        obtain ⟨a6, n6, h6, e6, k6⟩ := (kD.b4).appB (P := Tryz.prog) (t := 32) (xt := 32) (xv := .slice none 0 0) (xs := []) Tryz.underlying32 tsz5 tby5 tz5 nI32 rfl hk2
        rw [List.append_nil, List.length_nil, Nat.add_zero] at k6
        rw [List.length_nil, Nat.add_zero] at e6
        refine awpL_restE (by simp [go_sem, cR]; exact ⟨rfl, rfl⟩) ?_; try dsimp only [thn, inBlk]
        (repeat' first
          | refine AWP.seq ?_
          | refine AWP.block ?_
          | (refine AWP.skip ?_; try dsimp only [thn, inBlk])
          | (refine AWP.exit ?_; try simp only [thn, inBlk, if_true, reduceIte, Nat.reduceEqDiff])
          | (refine AWP.ret ?_; try dsimp only [thn, inBlk])
          | (refine AWP.condT ?_ ?_; (focus (simp [go_sem, hfe, hfe', e6, w2]; done)))
          | (refine AWP.condF ?_ ?_; (focus (simp [go_sem, hfe, hfe', e6, w2]; done)))
          | (apply AWP.rE; (focus (simp [go_sem, hfe, hfe', e6, w2]; exact ⟨rfl, rfl⟩)); try dsimp only [thn, inBlk])
          | fail)
        simp [bodyQ, thn, inBlk, resA, resV, go_sem]
        refine ⟨S.length - (j + 1), by omega, j + 1, by omega, rfl, fe, a6, n6, out, ⟨rfl, ⟨rfl, rfl, rfl⟩, by omega⟩, hs0, hs1, k6.d1.d2.d2.b1.p3⟩
end
end L23
end

section
open Go Ab Go.Proofs
namespace L23
set_option autoImplicit false
set_option linter.unusedSimpArgs false
set_option linter.unusedVariables false
section
variable {O : Old} {h : AHeap} {R : List Chunk} {i : Nat} {T : TL} {who p : List UInt8}
theorem StrP.weak {C : Chunk} {y : Int × List UInt8} {r : Value} (s : StrP O (C :: R) i T y r h) : StrP O R i T y r h := by
  obtain ⟨a, cap, e, k⟩ := s
  exact ⟨a, cap, e, k.d2⟩
set_option maxHeartbeats 16000000 in
/-- The program's Source. -/
theorem source_calls {all : Bool} (hT : TS T) (g : GP O) (hw : who.length ≤ 1000000) (k : Own O h (tr i T :: R)) (hp : p.length ≤ 100000) :
    ACalls Tryz.prog 11 #[ptr i, tx who, tx p, .bool all] h (StrP O R i T (srcR T who p all)) := by
  refine ACalls.of_awp (args := [ptr i, tx who, tx p, .bool all]) (n := 39) Tryz.func11 rfl rfl (by show 4 ≤ 39; omega) ?_
  (repeat' first
    | refine AWP.seq ?_
    | refine AWP.block ?_
    | (refine AWP.skip ?_; try dsimp only [thn, inBlk])
    | (refine AWP.exit ?_; try simp only [thn, inBlk, if_true, reduceIte, Nat.reduceEqDiff])
    | (refine AWP.ret ?_; try dsimp only [thn, inBlk])
    | (refine AWP.condT ?_ ?_; (focus (simp [go_sem]; done)))
    | (refine AWP.condF ?_ ?_; (focus (simp [go_sem]; done)))
    | (apply AWP.rE; (focus (simp [go_sem]; exact ⟨rfl, rfl⟩)); try dsimp only [thn, inBlk])
    | fail)
  refine AWP.callE (by simp [go_sem]; exact ⟨rfl, rfl, rfl, rfl, rfl⟩) (by kernel_rfl) ?_
  refine (stat_calls (who := who) (p := p) hT.toTK k (by omega)).mono ?_
  rintro r h1 ⟨z, rfl, hz, k1⟩
  have k2 := k1.push (.row [tx z.1.1, .bool z.1.2.dir, tx z.1.2.own, .int .i64 z.1.2.mode, .slice z.2.1 z.1.2.data.length z.2.2] 47 5 true false)
  have c2 := k2.obj
  by_cases hc : findE T who p = 0
  rotate_left
  · have hc' : (findE T who p != 0) = true := by simpa using hc
    have e : srcR T who p all = (findE T who p, []) := by unfold srcR; rw [if_neg hc]
    rw [e]
    have b := StrP.bad (e := findE T who p) (k2.b2.d2.d1)
    generalize findE T who p = y at *
    refine awpL_restE (by simp [go_sem]; exact ⟨rfl, rfl⟩) ?_; try dsimp only [thn, inBlk]
    (repeat' first
      | refine AWP.seq ?_
      | refine AWP.block ?_
      | (refine AWP.skip ?_; try dsimp only [thn, inBlk])
      | (refine AWP.exit ?_; try simp only [thn, inBlk, if_true, reduceIte, Nat.reduceEqDiff])
      | (refine AWP.ret ?_; try dsimp only [thn, inBlk])
      | (refine AWP.condT ?_ ?_; (focus (simp [go_sem, hc']; done)))
      | (refine AWP.condF ?_ ?_; (focus (simp [go_sem, hc']; done)))
      | (apply AWP.rE; (focus (simp [go_sem, hc']; exact ⟨rfl, rfl⟩)); try dsimp only [thn, inBlk])
      | fail)
    simp [bodyQ, thn, inBlk, resA, resV, go_sem]
    exact b
  rcases hz with ⟨_, hz1, hz2⟩ | ⟨hz0, _⟩
  rotate_left
  · exact absurd hc hz0
  have hc' : (findE T who p != 0) = false := by simpa using hc
  by_cases h1 : p = [47]
  · have e : srcR T who p all = (1, []) := by unfold srcR; rw [if_pos hc, if_pos h1]
    rw [e]
    have e1 : strA .eql ⟨p.toArray⟩ ⟨#[47]⟩ = some (.bool true) := by have := strA_eql p [47]; rw [h1] at this ⊢; exact this
    have b := StrP.bad (e := 1) (k2.b2.d2.d1)
    clear h1
    generalize findE T who p = y at *
    refine awpL_restE (by simp [go_sem]; exact ⟨rfl, rfl⟩) ?_; try dsimp only [thn, inBlk]
    (repeat' first
      | refine AWP.seq ?_
      | refine AWP.block ?_
      | (refine AWP.skip ?_; try dsimp only [thn, inBlk])
      | (refine AWP.exit ?_; try simp only [thn, inBlk, if_true, reduceIte, Nat.reduceEqDiff])
      | (refine AWP.ret ?_; try dsimp only [thn, inBlk])
      | (refine AWP.condT ?_ ?_; (focus (simp [go_sem, hc', hc, e1]; done)))
      | (refine AWP.condF ?_ ?_; (focus (simp [go_sem, hc', hc, e1]; done)))
      | (apply AWP.rE; (focus (simp [go_sem, hc', hc, e1]; exact ⟨rfl, rfl⟩)); try dsimp only [thn, inBlk])
      | fail)
    simp [bodyQ, thn, inBlk, resA, resV, go_sem]
    exact b
  have e1 : strA .eql ⟨p.toArray⟩ ⟨#[47]⟩ = some (.bool false) := by
    have := strA_eql p [47]
    rw [show (p == [47]) = false by simpa using h1] at this; exact this
  have e0 : srcR T who p all = if (z.1.2.dir && !all) = true then (113, []) else strR T who 400 z.1 := by
    unfold srcR; rw [if_pos hc, if_neg h1, hz2]; dsimp only
    obtain ⟨⟨zp, zn⟩, zw⟩ := z; dsimp only at hz1 ⊢; rw [hz1]
  rw [e0]
  clear e0
  obtain ⟨⟨zp, ⟨zd, zo, zm, zdt⟩⟩, za, zc⟩ := z
  dsimp only at hz1 hz2 k2 c2 ⊢
  generalize findE T who p = y at *
  cases zd
  · rw [show (false && !all) = false from rfl, if_neg (by decide)]
    refine awpL_restE (by simp [go_sem]; exact ⟨rfl, rfl⟩) ?_; try dsimp only [thn, inBlk]
    (repeat' first
      | refine AWP.seq ?_
      | refine AWP.block ?_
      | (refine AWP.skip ?_; try dsimp only [thn, inBlk])
      | (refine AWP.exit ?_; try simp only [thn, inBlk, if_true, reduceIte, Nat.reduceEqDiff])
      | (refine AWP.ret ?_; try dsimp only [thn, inBlk])
      | (refine AWP.condT ?_ ?_; (focus (simp [go_sem, hc', hc, e1, c2]; done)))
      | (refine AWP.condF ?_ ?_; (focus (simp [go_sem, hc', hc, e1, c2]; done)))
      | (apply AWP.rE; (focus (simp [go_sem, hc', hc, e1, c2]; exact ⟨rfl, rfl⟩)); try dsimp only [thn, inBlk])
      | fail)
    refine AWP.callE (by simp [go_sem, c2]; exact ⟨rfl, rfl, rfl, rfl, rfl⟩) (by kernel_rfl) ?_
    refine (str_calls hT g hw 400 (z := ((zp, ⟨false, zo, zm, zdt⟩), za, zc)) k2.b2 (by rw [hz1]; exact hz2) (by rw [hz1]; exact h1) (by omega)).mono ?_
    intro r h5 hs
    have hs2 := hs.weak.weak
    obtain ⟨a5, n5, rfl, k5⟩ := hs2
    have hS : StrP O R i T (strR T who 400 (zp, ⟨false, zo, zm, zdt⟩)) (.tuple #[.slice a5 (strR T who 400 (zp, ⟨false, zo, zm, zdt⟩)).2.length n5, .int .i64 (strR T who 400 (zp, ⟨false, zo, zm, zdt⟩)).1]) h5 := ⟨a5, n5, rfl, k5⟩
    generalize (strR T who 400 (zp, ⟨false, zo, zm, zdt⟩)) = S at *
    obtain ⟨S1, S2⟩ := S
    dsimp only at hS ⊢
    generalize S2.length = SL at *
    refine awpL_restE (by simp [go_sem]; exact ⟨rfl, rfl⟩) ?_; try dsimp only [thn, inBlk]
    (repeat' first
      | refine AWP.seq ?_
      | refine AWP.block ?_
      | (refine AWP.skip ?_; try dsimp only [thn, inBlk])
      | (refine AWP.exit ?_; try simp only [thn, inBlk, if_true, reduceIte, Nat.reduceEqDiff])
      | (refine AWP.ret ?_; try dsimp only [thn, inBlk])
      | (refine AWP.condT ?_ ?_; (focus (simp [go_sem]; done)))
      | (refine AWP.condF ?_ ?_; (focus (simp [go_sem]; done)))
      | (apply AWP.rE; (focus (simp [go_sem]; exact ⟨rfl, rfl⟩)); try dsimp only [thn, inBlk])
      | fail)
    simp [bodyQ, thn, inBlk, resA, resV, go_sem]
    exact hS
  cases all
  · have b := StrP.bad (e := 113) (k2.b2.d2.d1)
    rw [show (true && !false) = true from rfl, if_pos rfl]
    refine awpL_restE (by simp [go_sem]; exact ⟨rfl, rfl⟩) ?_; try dsimp only [thn, inBlk]
    (repeat' first
      | refine AWP.seq ?_
      | refine AWP.block ?_
      | (refine AWP.skip ?_; try dsimp only [thn, inBlk])
      | (refine AWP.exit ?_; try simp only [thn, inBlk, if_true, reduceIte, Nat.reduceEqDiff])
      | (refine AWP.ret ?_; try dsimp only [thn, inBlk])
      | (refine AWP.condT ?_ ?_; (focus (simp [go_sem, hc', hc, e1, c2]; done)))
      | (refine AWP.condF ?_ ?_; (focus (simp [go_sem, hc', hc, e1, c2]; done)))
      | (apply AWP.rE; (focus (simp [go_sem, hc', hc, e1, c2]; exact ⟨rfl, rfl⟩)); try dsimp only [thn, inBlk])
      | fail)
    simp [bodyQ, thn, inBlk, resA, resV, go_sem]
    exact b
  · rw [show (true && !true) = false from rfl, if_neg (by decide)]
    refine awpL_restE (by simp [go_sem]; exact ⟨rfl, rfl⟩) ?_; try dsimp only [thn, inBlk]
    (repeat' first
      | refine AWP.seq ?_
      | refine AWP.block ?_
      | (refine AWP.skip ?_; try dsimp only [thn, inBlk])
      | (refine AWP.exit ?_; try simp only [thn, inBlk, if_true, reduceIte, Nat.reduceEqDiff])
      | (refine AWP.ret ?_; try dsimp only [thn, inBlk])
      | (refine AWP.condT ?_ ?_; (focus (simp [go_sem, hc', hc, e1, c2]; done)))
      | (refine AWP.condF ?_ ?_; (focus (simp [go_sem, hc', hc, e1, c2]; done)))
      | (apply AWP.rE; (focus (simp [go_sem, hc', hc, e1, c2]; exact ⟨rfl, rfl⟩)); try dsimp only [thn, inBlk])
      | fail)
    refine AWP.callE (by simp [go_sem, c2]; exact ⟨rfl, rfl, rfl, rfl, rfl⟩) (by kernel_rfl) ?_
    refine (str_calls hT g hw 400 (z := ((zp, ⟨true, zo, zm, zdt⟩), za, zc)) k2.b2 (by rw [hz1]; exact hz2) (by rw [hz1]; exact h1) (by omega)).mono ?_
    intro r h5 hs
    have hs2 := hs.weak.weak
    obtain ⟨a5, n5, rfl, k5⟩ := hs2
    have hS : StrP O R i T (strR T who 400 (zp, ⟨true, zo, zm, zdt⟩)) (.tuple #[.slice a5 (strR T who 400 (zp, ⟨true, zo, zm, zdt⟩)).2.length n5, .int .i64 (strR T who 400 (zp, ⟨true, zo, zm, zdt⟩)).1]) h5 := ⟨a5, n5, rfl, k5⟩
    generalize (strR T who 400 (zp, ⟨true, zo, zm, zdt⟩)) = S at *
    obtain ⟨S1, S2⟩ := S
    dsimp only at hS ⊢
    generalize S2.length = SL at *
    refine awpL_restE (by simp [go_sem]; exact ⟨rfl, rfl⟩) ?_; try dsimp only [thn, inBlk]
    (repeat' first
      | refine AWP.seq ?_
      | refine AWP.block ?_
      | (refine AWP.skip ?_; try dsimp only [thn, inBlk])
      | (refine AWP.exit ?_; try simp only [thn, inBlk, if_true, reduceIte, Nat.reduceEqDiff])
      | (refine AWP.ret ?_; try dsimp only [thn, inBlk])
      | (refine AWP.condT ?_ ?_; (focus (simp [go_sem]; done)))
      | (refine AWP.condF ?_ ?_; (focus (simp [go_sem]; done)))
      | (apply AWP.rE; (focus (simp [go_sem]; exact ⟨rfl, rfl⟩)); try dsimp only [thn, inBlk])
      | fail)
    simp [bodyQ, thn, inBlk, resA, resV, go_sem]
    exact hS
end
end L23
end

section
open Go Ab Go.Proofs
namespace L23
set_option autoImplicit false
set_option linter.unusedSimpArgs false
set_option linter.unusedVariables false
section
variable {O : Old} {R : List Chunk} {i : Nat} {T xs : TL} {who : List UInt8} {v : Value} {zs : List NZ}
def RStrP (O : Old) (R : List Chunk) (i : Nat) (v : Value) (zs : List NZ) (y : Int × List UInt8) (r : Value) (h' : AHeap) : Prop :=
  r = .tuple #[tx y.2, .int .i64 y.1] ∧ Own O h' (cell i (rrow v) :: nzs v zs :: R)
set_option maxHeartbeats 32000000 in
/-- The document's stream of a file. -/
theorem rfile_calls {h : AHeap} {z : NZ} {d : Nat} (hT : TS T) (hr : RT T xs) (hz : zs.map (·.1) = xs) (hw : who.length ≤ 1000000) (hB : ∀ z ∈ zs, ∀ hh, Own O hh R → Bytes hh (.slice z.2.1 z.1.2.data.length z.2.2) z.1.2.data)
    (k : Own O h (cell i (rrow v) :: nzs v zs :: R)) (hg : get xs z.1.1 = some z.1.2) (h1 : z.1.1 ≠ [47]) (hdir : z.1.2.dir = false) :
    ACalls Tryz.prog 30 #[ptr i, tx who, .agg (nz z).toArray] h (RStrP O R i v zs (strR xs who (d + 1) z.1)) := by
  have hm := (hr.me _).1 (mem_of_get hg)
  have hps := hT.ps _ hm
  have hpb := hT.pa _ hm
  have hmd := hT.md _ hm
  have hrd := rd_len hT who z.1.1
  rw [← hr.read hT] at hrd
  obtain ⟨⟨p, ⟨zd, zo, zm, zdt⟩⟩, za, zc⟩ := z
  dsimp only at hps hpb hmd hg h1 hm hdir hrd
  subst hdir
  have hbl := base_len p
  refine ACalls.of_awp (args := [ptr i, tx who, .agg (nz ((p, ⟨false, zo, zm, zdt⟩), za, zc)).toArray]) (n := 97) Tryz.func30 rfl rfl (by show 3 ≤ 97; omega) ?_
  have k1 := k.push (.row (nz ((p, ⟨false, zo, zm, zdt⟩), za, zc)) 47 5 true false)
  have c1 := k1.obj
  have e1 : strR xs who (d + 1) (p, ⟨false, zo, zm, zdt⟩) = if (rdR xs who p).1 = 0 then (0, lineB 67 zm (rdR xs who p).2.length (base p) ++ (rdR xs who p).2 ++ [0]) else ((rdR xs who p).1, []) := by
    rw [strR]; simp only [Bool.false_eq_true, if_false]
  (repeat' first
    | refine AWP.seq ?_
    | refine AWP.block ?_
    | (refine AWP.skip ?_; try dsimp only [thn, inBlk])
    | (refine AWP.exit ?_; try simp only [thn, inBlk, if_true, reduceIte, Nat.reduceEqDiff])
    | (refine AWP.ret ?_; try dsimp only [thn, inBlk])
    | (refine AWP.condT ?_ ?_; (focus (simp [go_sem, c1]; done)))
    | (refine AWP.condF ?_ ?_; (focus (simp [go_sem, c1]; done)))
    | (apply AWP.rE; (focus (simp [go_sem, c1]; exact ⟨rfl, rfl⟩)); try dsimp only [thn, inBlk])
    | fail)
  refine AWP.callE (by simp [go_sem, c1]; exact ⟨rfl, rfl, rfl, rfl, rfl⟩) (by kernel_rfl) ?_
  refine (rread_calls (who := who) (p := p) (hr.rx hT) hz (hr.dl hT) (fun z hzm hh kk => hB z hzm hh kk.tail) k1.b2.b2 (by omega)).mono ?_
  rintro r h2 ⟨a2, n2, rfl, k2⟩
  have c2 := k2.b3.obj
  by_cases he : (rdR xs who p).1 = 0
  rotate_left
  · have he' : ((rdR xs who p).1 != 0) = true := by simpa using he
    rw [if_neg he] at e1
    rw [e1]
    have kE : RStrP O R i v zs ((rdR xs who p).1, []) (.tuple #[tx [], .int .i64 (rdR xs who p).1]) h2 := ⟨rfl, k2.tail.d2⟩
    generalize (rdR xs who p).1 = y1 at *
    generalize (rdR xs who p).2 = dt at *
    refine awpL_restE (by simp [go_sem]; exact ⟨rfl, rfl⟩) ?_; try dsimp only [thn, inBlk]
    (repeat' first
      | refine AWP.seq ?_
      | refine AWP.block ?_
      | (refine AWP.skip ?_; try dsimp only [thn, inBlk])
      | (refine AWP.exit ?_; try simp only [thn, inBlk, if_true, reduceIte, Nat.reduceEqDiff])
      | (refine AWP.ret ?_; try dsimp only [thn, inBlk])
      | (refine AWP.condT ?_ ?_; (focus (simp [go_sem, he']; done)))
      | (refine AWP.condF ?_ ?_; (focus (simp [go_sem, he']; done)))
      | (apply AWP.rE; (focus (simp [go_sem, he']; exact ⟨rfl, rfl⟩)); try dsimp only [thn, inBlk])
      | fail)
    simp [bodyQ, thn, inBlk, resA, resV, go_sem]
    exact kE
  have he' : ((rdR xs who p).1 != 0) = false := by simpa using he
  rw [if_pos he] at e1
  rw [e1]
  generalize (rdR xs who p).1 = y1 at *
  generalize hdt : (rdR xs who p).2 = dt at *
  have s1 := k2.ob_bytes.str (P := Tryz.prog) (t := 32) (e := 5) (u := 9) Tryz.underlying32 Tryz.underlying5 Tryz.underlying9
  refine awpL_restE (by simp [go_sem]; exact ⟨rfl, rfl⟩) ?_; try dsimp only [thn, inBlk]
  (repeat' first
    | refine AWP.seq ?_
    | refine AWP.block ?_
    | (refine AWP.skip ?_; try dsimp only [thn, inBlk])
    | (refine AWP.exit ?_; try simp only [thn, inBlk, if_true, reduceIte, Nat.reduceEqDiff])
    | (refine AWP.ret ?_; try dsimp only [thn, inBlk])
    | (refine AWP.condT ?_ ?_; (focus (simp [go_sem, he']; done)))
    | (refine AWP.condF ?_ ?_; (focus (simp [go_sem, he']; done)))
    | (apply AWP.rE; (focus (simp [go_sem, he']; exact ⟨rfl, rfl⟩)); try dsimp only [thn, inBlk])
    | fail)
  refine AWP.draw hmix [.n 0 [5], .n 1 [31], .n 2 [8], .n 3 [33], .n 4 [5], .n 5 [35], .n 8 [8], .n 9 [39], .w 6 [36] [1, 3, 9], .w 7 [32, 34, 37] [9], .n 10 [38, 40], .n 11 [41], .n 12 [42], .n 13 []] (by kernel_rfl) ?_
  refine awpD_callR 8 (by rfl) (by rfl) (by simp [go_sem, c2, s1]; exact ⟨rfl, rfl, rfl⟩) (by rfl) (by rfl) (by simp [go_sem]) (by simp [go_sem, c2, s1]; exact ⟨rfl, rfl⟩) (by kernel_rfl) ?_
  refine (last_calls (p := p) hpb h1 (by omega)).mono ?_
  rintro r h3 ⟨rfl, rfl⟩
  refine ⟨by simp [still, go_sem, c2, s1], ?_⟩
  refine awpD_callR 0 (by rfl) (by rfl) (by simp [go_sem, c2, s1]; exact ⟨rfl, rfl, rfl⟩) (by rfl) (by rfl) (by simp [go_sem]) (by simp [go_sem, c2, s1]; exact ⟨rfl, rfl⟩) (by kernel_rfl) ?_
  refine (head_calls (c := 67) (mode := zm) (size := dt.length) (name := base p) k2 hmd hrd (by omega)).mono ?_
  rintro r h4 ⟨rfl, k4⟩
  have c4 := k4.b3.obj
  have s2 := k4.ob_bytes.str (P := Tryz.prog) (t := 32) (e := 5) (u := 9) Tryz.underlying32 Tryz.underlying5 Tryz.underlying9
  refine ⟨by simp [still, go_sem, c2, c4, s1, s2], ?_⟩
  have hll := line_len 67 zm dt.length (base p)
  generalize lineB 67 zm dt.length (base p) = ln at *
  have f1 : ln.length + dt.length ≤ 9223372036854775807 := by omega
  have f2 : ln.length + dt.length + 1 ≤ 9223372036854775807 := by omega
  have f3 : ln.length + (dt.length + 1) ≤ 9223372036854775807 := by omega
  refine awpD_restR (by rfl) (by simp [go_sem, c4, s2, f1, f2, f3]; exact ⟨rfl, rfl, rfl⟩) ?_; try dsimp only [thn, inBlk]
  (repeat' first
    | refine AWP.seq ?_
    | refine AWP.block ?_
    | (refine AWP.skip ?_; try dsimp only [thn, inBlk])
    | (refine AWP.exit ?_; try simp only [thn, inBlk, if_true, reduceIte, Nat.reduceEqDiff])
    | (refine AWP.ret ?_; try dsimp only [thn, inBlk])
    | (refine AWP.condT ?_ ?_; (focus (simp [go_sem]; done)))
    | (refine AWP.condF ?_ ?_; (focus (simp [go_sem]; done)))
    | (apply AWP.rE; (focus (simp [go_sem]; exact ⟨rfl, rfl⟩)); try dsimp only [thn, inBlk])
    | fail)
  simp [bodyQ, thn, inBlk, resA, resV, go_sem]
  refine ⟨?_, k4.tail.d2⟩
  simp
theorem RT.strE (hr : RT T xs) (hT : TS T) (who : List UInt8) (d : Nat) : strR xs who d = strR T who d := funext fun y => hr.str hT who d y
set_option maxRecDepth 100000 in
set_option maxHeartbeats 32000000 in
/-- The document's stream. -/
theorem rstr_calls (hT : TS T) (hr : RT T xs) (hz : zs.map (·.1) = xs) (hw : who.length ≤ 1000000) : ∀ (d : Nat) {R : List Chunk} {h : AHeap} {z : NZ}, (∀ z ∈ zs, ∀ hh, Own O hh R → Bytes hh (.slice z.2.1 z.1.2.data.length z.2.2) z.1.2.data) → Own O h (cell i (rrow v) :: nzs v zs :: R) → get xs z.1.1 = some z.1.2 → z.1.1 ≠ [47] → 301 ≤ z.1.1.length + d →
    ACalls Tryz.prog 30 #[ptr i, tx who, .agg (nz z).toArray] h (RStrP O R i v zs (strR xs who d z.1))
  | 0, R, h, z, hB, k, hg, h1, hd => by
    have := hT.ps _ ((hr.me _).1 (mem_of_get hg))
    dsimp only at this
    omega
  | d + 1, R, h, z, hB, k, hg, h1, hd => by
    by_cases hdir : z.1.2.dir = true
    rotate_left
    · exact rfile_calls hT hr hz hw hB k hg h1 (by simpa using hdir)
    have hm := (hr.me _).1 (mem_of_get hg)
    have hps := hT.ps _ hm
    have hpb := hT.pa _ hm
    have hmd := hT.md _ hm
    obtain ⟨⟨p, ⟨zd, zo, zm, zdt⟩⟩, za, zc⟩ := z
    dsimp only at hps hpb hmd hg h1 hm hdir hd
    subst hdir
    have hbl := base_len p
    have hkl : (srt (kids xs p)).length ≤ 64 := by rw [hr.srt hT]; exact kids_le hT p
    have hkn : ∀ y ∈ srt (kids xs p), y.length ≤ 1000 := fun y hy => by
      rw [hr.srt hT] at hy
      have h2 := (List.mergeSort_perm (kids T p) Go.leB).mem_iff.1 hy
      unfold kids at h2
      obtain ⟨q, hq, rfl⟩ := List.mem_map.1 h2
      have h3 := (List.mem_filter.1 hq).1
      obtain ⟨x, hx, rfl⟩ := List.mem_map.1 h3
      have := hT.ps x hx
      have := base_len x.1
      omega
    have hSL := str_len hT who (d + 1) (p, ⟨true, zo, zm, zdt⟩) hpb h1 hps
    rw [← hr.strE hT] at hSL
    have hSB := Big_top hpb
    have q4 : Big p ≤ 105586446875000 := Nat.le_trans hSB (by decide)
    refine ACalls.of_awp (args := [ptr i, tx who, .agg (nz ((p, ⟨true, zo, zm, zdt⟩), za, zc)).toArray]) (n := 97) Tryz.func30 rfl rfl (by show 3 ≤ 97; omega) ?_
    have k1 := k.push (.row (nz ((p, ⟨true, zo, zm, zdt⟩), za, zc)) 47 5 true false)
    have c1 := k1.obj
    obtain ⟨f, hf⟩ : ∃ f, f = fun y => kidR xs who (strR xs who d) (joinB p y) := ⟨_, rfl⟩
    have e1 : strR xs who (d + 1) (p, ⟨true, zo, zm, zdt⟩) = if lsE xs who p = 0 then (if (kidsR f (srt (kids xs p))).1 = 0 then (0, lineB 68 zm 0 (base p) ++ (kidsR f (srt (kids xs p))).2 ++ [69, 10]) else ((kidsR f (srt (kids xs p))).1, [])) else (lsE xs who p, []) := by
      rw [strR]; simp only [if_true]; rw [hf]
    have hkm : ∀ y, (f y).2.length ≤ Big p / 65 := fun y => by
      rw [hf]; dsimp only; rw [hr.kidR hT, hr.strE hT]; exact kid_len (d := d) hT who hpb h1 y
    (repeat' first
      | refine AWP.seq ?_
      | refine AWP.block ?_
      | (refine AWP.skip ?_; try dsimp only [thn, inBlk])
      | (refine AWP.exit ?_; try simp only [thn, inBlk, if_true, reduceIte, Nat.reduceEqDiff])
      | (refine AWP.ret ?_; try dsimp only [thn, inBlk])
      | (refine AWP.condT ?_ ?_; (focus (simp [go_sem, c1]; done)))
      | (refine AWP.condF ?_ ?_; (focus (simp [go_sem, c1]; done)))
      | (apply AWP.rE; (focus (simp [go_sem, c1]; exact ⟨rfl, rfl⟩)); try dsimp only [thn, inBlk])
      | fail)
    refine AWP.callE (by simp [go_sem, c1]; exact ⟨rfl, rfl, rfl, rfl, rfl⟩) (by kernel_rfl) ?_
    refine (rlist_calls (who := who) (p := p) (hr.rx hT) (hr.pa hT) hz k1.b2.b2 (by omega)).mono ?_
    rintro r h2 ⟨a2, n2, S, rfl, hS0, hS1, k2⟩
    have c2 := k2.b3.obj
    by_cases hls : lsE xs who p = 0
    rotate_left
    · have he' : (lsE xs who p != 0) = true := by simpa using hls
      rw [if_neg hls] at e1
      rw [e1]
      have kE : RStrP O R i v zs (lsE xs who p, []) (.tuple #[tx [], .int .i64 (lsE xs who p)]) h2 := ⟨rfl, k2.tail.d2⟩
      generalize lsE xs who p = y1 at *
      refine awpL_restE (by simp [go_sem]; exact ⟨rfl, rfl⟩) ?_; try dsimp only [thn, inBlk]
      (repeat' first
        | refine AWP.seq ?_
        | refine AWP.block ?_
        | (refine AWP.skip ?_; try dsimp only [thn, inBlk])
        | (refine AWP.exit ?_; try simp only [thn, inBlk, if_true, reduceIte, Nat.reduceEqDiff])
        | (refine AWP.ret ?_; try dsimp only [thn, inBlk])
        | (refine AWP.condT ?_ ?_; (focus (simp [go_sem, he']; done)))
        | (refine AWP.condF ?_ ?_; (focus (simp [go_sem, he']; done)))
        | (apply AWP.rE; (focus (simp [go_sem, he']; exact ⟨rfl, rfl⟩)); try dsimp only [thn, inBlk])
        | fail)
      simp [bodyQ, thn, inBlk, resA, resV, go_sem]
      exact kE
    have he' : (lsE xs who p != 0) = false := by simpa using hls
    rw [if_pos hls] at e1
    obtain ⟨hS2, hS3⟩ := hS0 hls
    have hSS : S = srt (kids xs p) := Sd_eq hS3 (srt_Sd _) (hS2.trans (List.mergeSort_perm _ _).symm)
    rw [← hSS] at e1 hkl hkn
    clear hS0 hS1 hS2 hS3
    generalize lsE xs who p = y1 at *
    subst hls
    refine awpL_restE (by simp [go_sem]; exact ⟨rfl, rfl⟩) ?_; try dsimp only [thn, inBlk]
    (repeat' first
      | refine AWP.seq ?_
      | refine AWP.block ?_
      | (refine AWP.skip ?_; try dsimp only [thn, inBlk])
      | (refine AWP.exit ?_; try simp only [thn, inBlk, if_true, reduceIte, Nat.reduceEqDiff])
      | (refine AWP.ret ?_; try dsimp only [thn, inBlk])
      | (refine AWP.condT ?_ ?_; (focus (simp [go_sem, he']; done)))
      | (refine AWP.condF ?_ ?_; (focus (simp [go_sem, he']; done)))
      | (apply AWP.rE; (focus (simp [go_sem, he']; exact ⟨rfl, rfl⟩)); try dsimp only [thn, inBlk])
      | fail)
    refine AWP.draw hmix [.n 0 [5], .n 1 [54], .n 2 [5], .n 3 [56], .w 4 [57] [1], .w 5 [55, 58] [], .n 6 [59]] (by kernel_rfl) ?_
    refine awpD_callR 4 (by rfl) (by rfl) (by simp [go_sem, c2]; exact ⟨rfl, rfl, rfl⟩) (by rfl) (by rfl) (by simp [go_sem]) (by simp [go_sem, c2]; exact ⟨rfl, rfl⟩) (by kernel_rfl) ?_
    refine (last_calls (p := p) hpb h1 (by omega)).mono ?_
    rintro r h3 ⟨rfl, rfl⟩
    refine ⟨by simp [still, go_sem, c2], ?_⟩
    refine awpD_callR 0 (by rfl) (by rfl) (by simp [go_sem, c2]; exact ⟨rfl, rfl, rfl⟩) (by rfl) (by rfl) (by simp [go_sem]) (by simp [go_sem, c2]; exact ⟨rfl, rfl⟩) (by kernel_rfl) ?_
    refine (head_calls (c := 68) (mode := zm) (size := 0) (name := base p) k2 hmd (by omega) (by omega)).mono ?_
    rintro r h4 ⟨rfl, k4⟩
    have c4 := k4.b3.obj
    refine ⟨by simp [still, go_sem, c2, c4], ?_⟩
    have hll := line_len 68 zm 0 (base p)
    generalize hln : lineB 68 zm 0 (base p) = ln at *
    refine awpD_restR (by rfl) (by simp [go_sem, c4]; exact ⟨rfl, rfl, rfl⟩) ?_; try dsimp only [thn, inBlk]
    (repeat' first
      | refine AWP.seq ?_
      | refine AWP.block ?_
      | (refine AWP.skip ?_; try dsimp only [thn, inBlk])
      | (refine AWP.exit ?_; try simp only [thn, inBlk, if_true, reduceIte, Nat.reduceEqDiff])
      | (refine AWP.ret ?_; try dsimp only [thn, inBlk])
      | (refine AWP.condT ?_ ?_; (focus (simp [go_sem]; done)))
      | (refine AWP.condF ?_ ?_; (focus (simp [go_sem]; done)))
      | (apply AWP.rE; (focus (simp [go_sem]; exact ⟨rfl, rfl⟩)); try dsimp only [thn, inBlk])
      | fail)
    refine AWP.loopR [0, 1, 5, 10, 12, 13] (fun m s h' => ∃ (j : Nat) (out : List UInt8), j ≤ S.length ∧ m = S.length - j ∧ s = ⟨97, [(0, ptr i), (1, tx who), (5, ptr h.next), (10, .slice a2 S.length n2), (12, tx out), (13, .int .i64 j)]⟩ ∧
        (∀ y ∈ S.take j, (f y).1 = 0) ∧ out = ln ++ catR f (S.take j) ∧ Own O h' (txs (.slice a2 S.length n2) S :: cell i (rrow v) :: nzs v zs :: cell h.next (.row (nz ((p, ⟨true, zo, zm, zdt⟩), za, zc)) 47 5 true false) :: R)) ?_ ?_
    · exact ⟨_, 0, ln, by omega, rfl, rfl, by simp, by simp [catR], k4⟩
    rintro m s hA ⟨j, out, hj, rfl, rfl, hok, hout, kA⟩
    have cA := kA.b3.obj
    have hbo : out.length + 65536 ≤ 10 + 300 + 64 * (Big p / 65) + 65536 := by
      have q2 := cat_len (f := f) (M := Big p / 65) hkm (S.take j)
      have q3 : (S.take j).length * (Big p / 65) ≤ 64 * (Big p / 65) := Nat.mul_le_mul_right _ (by rw [List.length_take]; omega)
      rw [hout, List.length_append]
      omega
    by_cases hjm : j < S.length
    rotate_left
    · have hjm' : ¬ (j : Int) < S.length := by omega
      have hjl : j = S.length := by omega
      subst hjl
      rw [List.take_length] at hok hout
      rw [kidsR_ok hok, if_pos rfl] at e1
      dsimp only at e1
      rw [← hout] at e1
      have f1 : out.length + 2 ≤ 9223372036854775807 := by omega
      rw [e1]
      have kE : RStrP O R i v zs (0, out ++ [69, 10]) (.tuple #[tx (out ++ [69, 10]), .int .i64 0]) hA := ⟨rfl, kA.tail.d2⟩
      simp only [List.append_toArray, tx] at kE
      (repeat' first
        | refine AWP.seq ?_
        | refine AWP.block ?_
        | (refine AWP.skip ?_; try dsimp only [thn, inBlk])
        | (refine AWP.exit ?_; try simp only [thn, inBlk, if_true, reduceIte, Nat.reduceEqDiff])
        | (refine AWP.ret ?_; try dsimp only [thn, inBlk])
        | (refine AWP.condT ?_ ?_; (focus (simp [go_sem, hjm', hjm, f1]; done)))
        | (refine AWP.condF ?_ ?_; (focus (simp [go_sem, hjm', hjm, f1]; done)))
        | (apply AWP.rE; (focus (simp [go_sem, hjm', hjm, f1]; exact ⟨rfl, rfl⟩)); try dsimp only [thn, inBlk])
        | fail)
      simp [bodyQ, thn, inBlk, resA, resV, go_sem]
      simpa using kE
    have hjm' : (j : Int) < S.length := by omega
    have hyn := hkn _ (List.getElem_mem hjm)
    have hsj : S[j]? = some S[j] := List.getElem?_eq_getElem hjm
    have w2 : IntKind.i64.wrap ((j : Int) + 1) = ((j + 1 : Nat) : Int) := by rw [wI64 (by omega) (by omega)]; omega
    have kB := kA.push (.row [.string ⟨#[]⟩, .bool false, .string ⟨#[]⟩, .int .i64 0, .slice none 0 0] 47 5 true false)
    have cB := kB.b4.obj
    obtain ⟨i1, o1, c1', _, _, _, _, p1, q1, r1⟩ := kA.os_sl.at1 (P := Tryz.prog) (t := 71) Tryz.underlying71 tsz9 hjm (lt_ptr hjm) (kd := .i64)
    obtain ⟨i2, o2, c2', _, _, _, _, p2, q2, r2⟩ := kB.b1.os_sl.at1 (P := Tryz.prog) (t := 71) Tryz.underlying71 tsz9 hjm (lt_ptr hjm) (kd := .i64)
    have ep := p1.symm.trans p2
    simp only [Option.some.injEq, Value.pointer.injEq, Addr.mk.injEq, and_true] at ep
    obtain ⟨rfl, rfl⟩ := ep
    clear p2
    obtain ⟨y, hy⟩ : ∃ y, S[j] = y := ⟨_, rfl⟩
    rw [hy] at hyn hsj r1 r2
    have hjl : (joinB p y).length ≤ 90000 := by
      rw [joinB_path hpb h1]; simp; omega
    have hfy : f y = kidR xs who (strR xs who d) (joinB p y) := by rw [hf]
    (repeat' first
      | refine AWP.seq ?_
      | refine AWP.block ?_
      | (refine AWP.skip ?_; try dsimp only [thn, inBlk])
      | (refine AWP.exit ?_; try simp only [thn, inBlk, if_true, reduceIte, Nat.reduceEqDiff])
      | (refine AWP.ret ?_; try dsimp only [thn, inBlk])
      | (refine AWP.condT ?_ ?_; (focus (simp [go_sem, hjm', hjm]; done)))
      | (refine AWP.condF ?_ ?_; (focus (simp [go_sem, hjm', hjm]; done)))
      | (apply AWP.rE; (focus (simp [go_sem, hjm', hjm]; exact ⟨rfl, rfl⟩)); try dsimp only [thn, inBlk])
      | fail)
    refine AWP.draw hmix [.n 0 [0], .n 1 [1], .n 2 [5], .n 3 [69], .n 4 [10], .n 5 [13], .n 6 [71, 72], .n 7 [73], .n 13 [], .w 8 [70, 74] [13], .w 9 [67, 68, 75] [13], .n 10 [76], .n 11 [66], .n 12 [66], .w 14 [14, 77] [], .n 15 [78]] (by kernel_rfl) ?_
    refine awpD_callR 9 (by rfl) (by rfl) (by simp [go_sem, cA, p1, q1, r1, cB, q2, r2]; exact ⟨rfl, rfl, rfl⟩) (by rfl) (by rfl) (by simp [go_sem]) (by simp [go_sem, cA, p1, q1, r1, cB, q2, r2]; exact ⟨rfl, rfl⟩) (by kernel_rfl) ?_
    refine (rjoin_calls (d := p) (x := y) hpb (by omega) (by omega)).mono ?_
    rintro r h7 ⟨rfl, rfl⟩
    refine ⟨by simp [still, go_sem, cA, p1, q1, r1, cB, q2, r2], ?_⟩
    refine awpD_callR 0 (by rfl) (by rfl) (by simp [go_sem, cA, p1, q1, r1, cB, q2, r2]; exact ⟨rfl, rfl, rfl⟩) (by rfl) (by rfl) (by simp [go_sem]) (by simp [go_sem, cA, p1, q1, r1, cB, q2, r2]; exact ⟨rfl, rfl⟩) (by kernel_rfl) ?_
    refine (rstat_calls (who := who) (p := joinB p y) (hr.rx hT) hz kB.b3.b3 (by omega)).mono ?_
    rintro r h8 ⟨z, rfl, hzz, k8⟩
    have cC0 := k8.b4.obj
    have cR := k8.b2.obj
    obtain ⟨i3, o3, c3', _, _, _, _, p3, q3, r3⟩ := k8.b3.os_sl.at1 (P := Tryz.prog) (t := 71) Tryz.underlying71 tsz9 hjm (lt_ptr hjm) (kd := .i64)
    rw [hy] at r3
    have ep := p1.symm.trans p3
    simp only [Option.some.injEq, Value.pointer.injEq, Addr.mk.injEq, and_true] at ep
    obtain ⟨rfl, rfl⟩ := ep
    clear p3
    refine ⟨by simp [still, go_sem, cB, q2, r2, p1, cC0, q3, r3, cR], ?_⟩
    have kC := k8.b2.set (.row [tx z.1.1, .bool z.1.2.dir, tx z.1.2.own, .int .i64 z.1.2.mode, .slice z.2.1 z.1.2.data.length z.2.2] 47 5 true false)
    have cC := kC.obj
    have cC1 := kC.b4.obj
    have q4 := kC.b3.os_sl.at1 (P := Tryz.prog) (t := 71) Tryz.underlying71 tsz9 hjm (lt_ptr hjm) (kd := .i64)
    obtain ⟨i4, o4, c4', _, _, _, _, p4, q4, r4⟩ := q4
    rw [hy] at r4
    have ep := p1.symm.trans p4
    simp only [Option.some.injEq, Value.pointer.injEq, Addr.mk.injEq, and_true] at ep
    obtain ⟨rfl, rfl⟩ := ep
    clear p4
    have hst : ∀ (e2 : Int) (b : List UInt8), f y = (e2, b) → (e2 = 0 → (∀ y ∈ S.take (j + 1), (f y).1 = 0) ∧ out ++ b = ln ++ catR f (S.take (j + 1))) ∧ (e2 ≠ 0 → strR xs who (d + 1) (p, ⟨true, zo, zm, zdt⟩) = (e2, [])) := fun e2 b e => by
      refine ⟨fun q => ⟨?_, ?_⟩, fun q => ?_⟩
      · exact take_ok hok hsj (by rw [e]; exact q)
      · rw [catR_succ hsj, e, hout, List.append_assoc]
      · have hb := kidsR_bad hok hsj (by rw [e]; exact q)
        rw [e1, hb, e]
        dsimp only
        rw [if_neg q]
    by_cases hfe : findE xs who (joinB p y) = 0
    rotate_left
    · have hfz : f y = (findE xs who (joinB p y), []) := by rw [hfy, kidR, if_neg hfe]
      have hE := (hst _ _ hfz).2 hfe
      have hfe' : (findE xs who (joinB p y) != 0) = true := by simpa using hfe
      rw [hE]
      have kE : RStrP O R i v zs (findE xs who (joinB p y), []) (.tuple #[tx [], .int .i64 (findE xs who (joinB p y))]) (h8.set hA.next (.row [tx z.1.1, .bool z.1.2.dir, tx z.1.2.own, .int .i64 z.1.2.mode, .slice z.2.1 z.1.2.data.length z.2.2] 47 5 true false)) := ⟨rfl, kC.tail.d2.d2⟩
      generalize findE xs who (joinB p y) = fe at *
      refine awpD_writeR 3 (by rfl) (by rfl) (by simp [go_sem, cR, cB, q2, r2, p1, cC0, q3, r3, cC, cC1, q4, r4]; exact ⟨rfl, rfl, rfl⟩) (by rfl) (by rfl) (by simp [go_sem]) (by simp [go_sem, cR, cB, q2, r2, p1, cC0, q3, r3, cC, cC1, q4, r4]; exact ⟨rfl, rfl⟩) (by simp [still, go_sem, cR, cB, q2, r2, p1, cC0, q3, r3, cC, cC1, q4, r4]) ?_
      refine awpD_restR (by rfl) (by simp [go_sem]; exact ⟨rfl, rfl, rfl⟩) ?_; try dsimp only [thn, inBlk]
      (repeat' first
        | refine AWP.seq ?_
        | refine AWP.block ?_
        | (refine AWP.skip ?_; try dsimp only [thn, inBlk])
        | (refine AWP.exit ?_; try simp only [thn, inBlk, if_true, reduceIte, Nat.reduceEqDiff])
        | (refine AWP.ret ?_; try dsimp only [thn, inBlk])
        | (refine AWP.condT ?_ ?_; (focus (simp [go_sem, hfe']; done)))
        | (refine AWP.condF ?_ ?_; (focus (simp [go_sem, hfe']; done)))
        | (apply AWP.rE; (focus (simp [go_sem, hfe']; exact ⟨rfl, rfl⟩)); try dsimp only [thn, inBlk])
        | fail)
      simp [bodyQ, thn, inBlk, resA, resV, go_sem]
      exact kE
    rcases hzz with ⟨_, hzm, hz1, hz2⟩ | ⟨hz0, _⟩
    rotate_left
    · exact absurd hfe hz0
    have hfz : f y = strR xs who d z.1 := by
      rw [hfy, kidR, if_pos hfe, hz2]; obtain ⟨⟨zp, zn⟩, zw⟩ := z; dsimp only at hz1 ⊢; rw [hz1]
    have hzne : z.1.1 ≠ [47] := by
      rw [hz1, joinB_path hpb h1]
      intro e; have e2 := congrArg List.length e; simp at e2
      have h3 : p ≠ [] := by intro e2; rw [e2] at hpb; exact absurd hpb (by decide)
      have := List.length_pos_iff.2 h3
      omega
    have hzd : 301 ≤ z.1.1.length + d := by
      rw [hz1, joinB_path hpb h1]; simp; omega
    have hfe' : (findE xs who (joinB p y) != 0) = false := by simpa using hfe
    generalize findE xs who (joinB p y) = fe at *
    subst hfe
    refine awpD_writeR 3 (by rfl) (by rfl) (by simp [go_sem, cR, cB, q2, r2, p1, cC0, q3, r3, cC, cC1, q4, r4]; exact ⟨rfl, rfl, rfl⟩) (by rfl) (by rfl) (by simp [go_sem]) (by simp [go_sem, cR, cB, q2, r2, p1, cC0, q3, r3, cC, cC1, q4, r4]; exact ⟨rfl, rfl⟩) (by simp [still, go_sem, cR, cB, q2, r2, p1, cC0, q3, r3, cC, cC1, q4, r4]) ?_
    refine awpD_restR (by rfl) (by simp [go_sem]; exact ⟨rfl, rfl, rfl⟩) ?_; try dsimp only [thn, inBlk]
    (repeat' first
      | refine AWP.seq ?_
      | refine AWP.block ?_
      | (refine AWP.skip ?_; try dsimp only [thn, inBlk])
      | (refine AWP.exit ?_; try simp only [thn, inBlk, if_true, reduceIte, Nat.reduceEqDiff])
      | (refine AWP.ret ?_; try dsimp only [thn, inBlk])
      | (refine AWP.condT ?_ ?_; (focus (simp [go_sem, hfe']; done)))
      | (refine AWP.condF ?_ ?_; (focus (simp [go_sem, hfe']; done)))
      | (apply AWP.rE; (focus (simp [go_sem, hfe']; exact ⟨rfl, rfl⟩)); try dsimp only [thn, inBlk])
      | fail)
    refine AWP.callE (by simp [go_sem, cC]; exact ⟨rfl, rfl, rfl, rfl, rfl⟩) (by kernel_rfl) ?_
    refine (rstr_calls hT hr hz hw d (z := z) (fun z hzm hh kk => hB z hzm hh kk.tail.tail.tail) kC.b2.b2 (by rw [hz1]; exact hz2) hzne hzd).mono ?_
    rintro r h9 ⟨rfl, kD⟩
    rw [← hfz]
    obtain ⟨hs0, hs1⟩ := hst (f y).1 (f y).2 rfl
    have hfl := hkm y
    by_cases hye : (f y).1 = 0
    rotate_left
    · rw [hs1 hye]
      have hye' : ((f y).1 != 0) = true := by simpa using hye
      have kE : RStrP O R i v zs ((f y).1, []) (.tuple #[tx [], .int .i64 (f y).1]) h9 := ⟨rfl, kD.d2.d2.d2⟩
      generalize (f y).1 = fy1 at *
      generalize (f y).2 = fy2 at *
      refine awpL_restE (by simp [go_sem]; exact ⟨rfl, rfl⟩) ?_; try dsimp only [thn, inBlk]
      (repeat' first
        | refine AWP.seq ?_
        | refine AWP.block ?_
        | (refine AWP.skip ?_; try dsimp only [thn, inBlk])
        | (refine AWP.exit ?_; try simp only [thn, inBlk, if_true, reduceIte, Nat.reduceEqDiff])
        | (refine AWP.ret ?_; try dsimp only [thn, inBlk])
        | (refine AWP.condT ?_ ?_; (focus (simp [go_sem, hye']; done)))
        | (refine AWP.condF ?_ ?_; (focus (simp [go_sem, hye']; done)))
        | (apply AWP.rE; (focus (simp [go_sem, hye']; exact ⟨rfl, rfl⟩)); try dsimp only [thn, inBlk])
        | fail)
      simp [bodyQ, thn, inBlk, resA, resV, go_sem]
      exact kE
    obtain ⟨hs2, hs3⟩ := hs0 hye
    have hye' : ((f y).1 != 0) = false := by simpa using hye
    have kE : Own O h9 (txs (.slice a2 S.length n2) S :: cell i (rrow v) :: nzs v zs :: cell h.next (.row (nz ((p, ⟨true, zo, zm, zdt⟩), za, zc)) 47 5 true false) :: R) := kD.d2.b2
    have f1 : out.length + (f y).2.length ≤ 9223372036854775807 := by omega
    generalize (f y).1 = fy1 at *
    generalize (f y).2 = fy2 at *
    refine awpL_restE (by simp [go_sem]; exact ⟨rfl, rfl⟩) ?_; try dsimp only [thn, inBlk]
    (repeat' first
      | refine AWP.seq ?_
      | refine AWP.block ?_
      | (refine AWP.skip ?_; try dsimp only [thn, inBlk])
      | (refine AWP.exit ?_; try simp only [thn, inBlk, if_true, reduceIte, Nat.reduceEqDiff])
      | (refine AWP.ret ?_; try dsimp only [thn, inBlk])
      | (refine AWP.condT ?_ ?_; (focus (simp [go_sem, hye', f1, w2]; done)))
      | (refine AWP.condF ?_ ?_; (focus (simp [go_sem, hye', f1, w2]; done)))
      | (apply AWP.rE; (focus (simp [go_sem, hye', f1, w2]; exact ⟨rfl, rfl⟩)); try dsimp only [thn, inBlk])
      | fail)
    simp [bodyQ, thn, inBlk, resA, resV, go_sem]
    exact ⟨S.length - (j + 1), by omega, j + 1, by omega, rfl, out ++ fy2, ⟨rfl, by omega⟩, hs2, hs3, kE⟩
end
end L23
end

