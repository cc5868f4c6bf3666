import Derived.Test.YtaieafdiomknoaaDoorL22x
open Go Ab Go.Proofs
namespace L22
set_option autoImplicit false
set_option linter.unusedSimpArgs false
set_option linter.unusedVariables false

abbrev inb (lo hi : Nat) (z : (Tl × Nat) × (Option Addr × Nat)) : Bool := decide (lo < z.1.2) && decide (z.1.2 ≤ hi)
theorem zip_filter {xs : List (Tl × Nat)} {lo hi : Nat} : ∀ {ws : List (Option Addr × Nat)}, ws.length = xs.length → ((xs.zip ws).filter (inb lo hi)).map (fun z => z.1.1) = (xs.filter (fun x => decide (lo < x.2) && decide (x.2 ≤ hi))).map Prod.fst := by
  induction xs with
  | nil => intro ws _; rfl
  | cons x xs ih =>
    intro ws h
    match ws, h with
    | w :: ws, h =>
      have := ih (ws := ws) (by simpa using h)
      simp only [List.zip_cons_cons, List.filter_cons, inb]
      split
      · simp only [List.map_cons]; exact congrArg _ this
      · exact this

set_option maxHeartbeats 8000000 in
theorem between_calls {O : Old} {h : AHeap} {R : List Chunk} {v : Value} {xs : List (Tl × Nat)} {lo hi : Nat} (k : Own O h (parts v xs :: R)) (hm : xs.length ≤ 1000000) (hd : ∀ x ∈ xs, x.1.2.length ≤ 10000000 ∧ x.2 ≤ 1000000000) :
    ACalls Tryd.prog 15 #[v, .int .i64 lo, .int .i64 hi] h fun r h' => ∃ a cap L, r = .slice a (putL ((xs.filter (fun x => decide (lo < x.2) && decide (x.2 ≤ hi))).map Prod.fst)).length cap ∧ Own O h' (L ++ R) ∧ BR pre 4 h' (.slice a (putL ((xs.filter (fun x => decide (lo < x.2) && decide (x.2 ≤ hi))).map Prod.fst)).length cap) (putL ((xs.filter (fun x => decide (lo < x.2) && decide (x.2 ≤ hi))).map Prod.fst)) := by
  obtain ⟨ws, hw, k0⟩ := grecs_iff.1 k
  obtain ⟨va, vc, rfl⟩ := k0.os_val
  refine ACalls.of_awp (args := [.slice va xs.length vc, .int .i64 lo, .int .i64 hi]) (n := 42) Tryd.func15 rfl rfl (by show 3 ≤ 42; omega) ?_
  have k1 : Own O (h.push (.row [] 24 4 true false)) (os 24 4 (.slice (some ⟨h.next, 0, none⟩) 0 0) 0 [] :: _) := (k0.push (.row [] 24 4 true false)).os_mk (n := 0) (cap := 0) (off := 0) (cs := []) (Nat.le_refl _) (by simp) (by simp)
  (repeat' first
    | refine AWP.seq ?_
    | refine AWP.block ?_
    | (refine AWP.skip ?_; try dsimp only [thn, inBlk])
    | (refine AWP.exit ?_; try simp only [thn, inBlk, if_true, reduceIte, Nat.reduceEqDiff])
    | (refine AWP.ret ?_; try dsimp only [thn, inBlk])
    | (refine AWP.condT ?_ ?_; (focus (simp [go_sem]; done)))
    | (refine AWP.condF ?_ ?_; (focus (simp [go_sem]; done)))
    | (apply AWP.rE; (focus (simp [go_sem]; exact ⟨rfl, rfl⟩)); try dsimp only [thn, inBlk])
    | fail)
  refine AWP.loopR [0, 1, 2, 7, 8] (fun m s h' => ∃ (j : Nat) (sel : List ((Tl × Nat) × (Option Addr × Nat))) (a : Option Addr) (cap : Nat), j ≤ xs.length ∧ m = xs.length - j ∧ s = ⟨42, [(0, .slice va xs.length vc), (1, .int .i64 lo), (2, .int .i64 hi), (7, .slice a sel.length cap), (8, .int .i64 (j : Nat))]⟩ ∧ sel = ((xs.zip ws).take j).filter (inb lo hi) ∧
    Own O h' (os 24 4 (.slice a sel.length cap) sel.length (rcells pre (sel.map fun z => z.1.1) (sel.map Prod.snd)).flatten :: os 62 5 (.slice va xs.length vc) xs.length (gcells prow xs ws).flatten :: (gsubs psub xs ws ++ R))) ?_ ?_
  · exact ⟨_, 0, [], _, _, by omega, rfl, rfl, rfl, k1⟩
  rintro m s hB ⟨j, sel, a, cap, hj, rfl, rfl, hsel, kB⟩
  have hzl : (xs.zip ws).length = xs.length := by rw [List.length_zip, hw]; omega
  have hsl : sel.length ≤ j := by rw [hsel]; exact Nat.le_trans (List.length_filter_le _ _) (by simp; omega)
  by_cases hjm : j < xs.length
  rotate_left
  · have hjm' : ¬ (j : Int) < xs.length := by omega
    obtain rfl : j = xs.length := by omega
    rw [List.take_of_length_le (by omega)] at hsel
    have hfs : sel.map (fun z => z.1.1) = (xs.filter (fun x => decide (lo < x.2) && decide (x.2 ≤ hi))).map Prod.fst := by rw [hsel]; exact zip_filter hw
    have hmem : ∀ z ∈ sel, ∃ q : Nat, xs[q]? = some z.1 ∧ ws[q]? = some z.2 := fun z hz => by
      rw [hsel] at hz
      obtain ⟨q, hq⟩ := List.mem_iff_getElem?.1 (List.mem_filter.1 hz).1
      exact ⟨q, List.getElem?_zip_eq_some.1 hq⟩
    have hbods : Bods O (os 24 4 (.slice a sel.length cap) sel.length (rcells pre (sel.map fun z => z.1.1) (sel.map Prod.snd)).flatten :: os 62 5 (.slice va xs.length vc) xs.length (gcells prow xs ws).flatten :: (gsubs psub xs ws ++ R)) (sel.map fun z => z.1.1) (sel.map Prod.snd) := by
      intro hh kk q f p hf hp
      rw [List.getElem?_map] at hf hp
      obtain ⟨z, hz, rfl⟩ := Option.map_eq_some_iff.1 hf
      rw [hz] at hp
      obtain rfl := Option.some.inj hp
      obtain ⟨q2, hq1, hq2⟩ := hmem z (List.mem_of_getElem? hz)
      exact (kk.tail.tail.mem (gsubs_get (sub := psub) hq1 hq2)).ob_bytes
    have hlen : (sel.map fun z => z.1.1).length = sel.length := List.length_map _
    (repeat' first
      | refine AWP.seq ?_
      | refine AWP.block ?_
      | (refine AWP.skip ?_; try dsimp only [thn, inBlk])
      | (refine AWP.exit ?_; try simp only [thn, inBlk, if_true, reduceIte, Nat.reduceEqDiff])
      | (refine AWP.ret ?_; try dsimp only [thn, inBlk])
      | (refine AWP.condT ?_ ?_; (focus (simp [go_sem, hjm']; done)))
      | (refine AWP.condF ?_ ?_; (focus (simp [go_sem, hjm']; done)))
      | (apply AWP.rE; (focus (simp [go_sem, hjm']; exact ⟨rfl, rfl⟩)); try dsimp only [thn, inBlk])
      | fail)
    refine AWP.callE (by simp [go_sem]; exact ⟨rfl, rfl, rfl, rfl, rfl⟩) (by kernel_rfl) ?_
    refine (put_calls (fs := sel.map fun z => z.1.1) (av := sel.map Prod.snd) kB (by simp) (fun hh kk => by rw [hlen]; exact kk.os_sl) hbods (by omega) (fun f hf => ?_)).mono ?_
    · obtain ⟨z, hz, rfl⟩ := List.mem_map.1 hf
      obtain ⟨q2, hq1, hq2⟩ := hmem z hz
      exact (hd _ (List.mem_of_getElem? hq1)).1
    rintro r h4 ⟨a4, cap4, L, rfl, k4, hbr⟩
    refine awpL_restE (by simp [go_sem]; exact ⟨rfl, rfl⟩) ?_; try dsimp only [thn, inBlk]
    (repeat' first
      | refine AWP.seq ?_
      | refine AWP.block ?_
      | (refine AWP.skip ?_; try dsimp only [thn, inBlk])
      | (refine AWP.exit ?_; try simp only [thn, inBlk, if_true, reduceIte, Nat.reduceEqDiff])
      | (refine AWP.ret ?_; try dsimp only [thn, inBlk])
      | (refine AWP.condT ?_ ?_; (focus (simp [go_sem]; done)))
      | (refine AWP.condF ?_ ?_; (focus (simp [go_sem]; done)))
      | (apply AWP.rE; (focus (simp [go_sem]; exact ⟨rfl, rfl⟩)); try dsimp only [thn, inBlk])
      | fail)
    rw [hfs] at hbr ⊢
    generalize putL ((xs.filter (fun x => decide (lo < x.2) && decide (x.2 ≤ hi))).map Prod.fst) = Z at hbr ⊢
    simp [bodyQ, thn, inBlk, resA, resV, go_sem]
    refine ⟨a4, cap4, ⟨rfl, rfl⟩, ⟨L ++ (os 24 4 (.slice a sel.length cap) sel.length (rcells pre (sel.map fun z => z.1.1) (sel.map Prod.snd)).flatten :: os 62 5 (.slice va xs.length vc) xs.length (gcells prow xs ws).flatten :: gsubs psub xs ws), ?_⟩, hbr⟩
    rw [hfs] at k4 ⊢
    rw [List.append_assoc]
    exact k4
  have hjm' : (j : Int) < xs.length := by omega
  have w1 : IntKind.i64.wrap ((j : Int) + 1) = ((j + 1 : Nat) : Int) := by rw [wI64 (by omega) (by omega)]; omega
  obtain ⟨x, hx⟩ : ∃ x, xs[j]? = some x := ⟨_, List.getElem?_eq_getElem hjm⟩
  obtain ⟨w, hwj⟩ : ∃ w, ws[j]? = some w := ⟨_, List.getElem?_eq_getElem (by omega)⟩
  have hz : (xs.zip ws)[j]? = some (x, w) := by rw [List.getElem?_zip_eq_some]; exact ⟨hx, hwj⟩
  have htk : (xs.zip ws).take (j + 1) = (xs.zip ws).take j ++ [(x, w)] := by
    rw [List.take_add_one, hz]; rfl
  obtain ⟨i0, o0, c0, ti0, p0, q0, l0, f0, g0⟩ := kB.b1.grec_at (P := Tryd.prog) (t := 39) (row := prow) (fun _ _ => rfl) hw Tryd.underlying39 tsz62 hx hwj (kd := .i64)
  obtain ⟨⟨⟨xk, xv, xo⟩, xb⟩, xm⟩ := x
  obtain ⟨wa, wc⟩ := w
  have hdx := hd _ (List.mem_of_getElem? hx)
  dsimp only at hdx
  have g4 : c0[o0 + 4]? = some (.int .i64 xm) := g0 4 _ rfl
  have f4 : (c0.drop o0).take 4 = [.int .i64 xk, .int .i64 xv, .int .i64 xo, .slice wa xb.length wc] := by
    have := congrArg (List.take 4) f0
    rw [List.take_take] at this
    exact this
  have l4 : o0 + 4 ≤ c0.length := by omega
  by_cases h1 : lo < xm
  rotate_left
  · have h1' : ¬ (lo : Int) < xm := by omega
    (repeat' first
      | refine AWP.seq ?_
      | refine AWP.block ?_
      | (refine AWP.skip ?_; try dsimp only [thn, inBlk])
      | (refine AWP.exit ?_; try simp only [thn, inBlk, if_true, reduceIte, Nat.reduceEqDiff])
      | (refine AWP.ret ?_; try dsimp only [thn, inBlk])
      | (refine AWP.condT ?_ ?_; (focus (simp [go_sem, hjm', p0, q0, g4, h1', w1]; done)))
      | (refine AWP.condF ?_ ?_; (focus (simp [go_sem, hjm', p0, q0, g4, h1', w1]; done)))
      | (apply AWP.rE; (focus (simp [go_sem, hjm', p0, q0, g4, h1', w1]; exact ⟨rfl, rfl⟩)); try dsimp only [thn, inBlk])
      | fail)
    refine ⟨xs.length - (j + 1), by omega, j + 1, sel, a, cap, by omega, rfl, by simp [go_sem], ?_, kB⟩
    rw [htk, List.filter_append, ← hsel]; simp [inb, h1]
  have h1' : (lo : Int) < xm := by omega
  by_cases h2 : xm ≤ hi
  rotate_left
  · have h2' : ¬ (xm : Int) ≤ hi := by omega
    (repeat' first
      | refine AWP.seq ?_
      | refine AWP.block ?_
      | (refine AWP.skip ?_; try dsimp only [thn, inBlk])
      | (refine AWP.exit ?_; try simp only [thn, inBlk, if_true, reduceIte, Nat.reduceEqDiff])
      | (refine AWP.ret ?_; try dsimp only [thn, inBlk])
      | (refine AWP.condT ?_ ?_; (focus (simp [go_sem, hjm', p0, q0, g4, h1', h2', w1]; done)))
      | (refine AWP.condF ?_ ?_; (focus (simp [go_sem, hjm', p0, q0, g4, h1', h2', w1]; done)))
      | (apply AWP.rE; (focus (simp [go_sem, hjm', p0, q0, g4, h1', h2', w1]; exact ⟨rfl, rfl⟩)); try dsimp only [thn, inBlk])
      | fail)
    refine ⟨xs.length - (j + 1), by omega, j + 1, sel, a, cap, by omega, rfl, by simp [go_sem], ?_, kB⟩
    rw [htk, List.filter_append, ← hsel]; simp [inb, h2]
  have h2' : (xm : Int) ≤ hi := by omega
  obtain ⟨a2, cap2, h3, e3, k3⟩ := Own.appN (P := Tryd.prog) (t := 33) (xt := 33) (m := 1) (xs := [.int .i64 xk, .int .i64 xv, .int .i64 xo, .slice wa xb.length wc]) Tryd.underlying33 tsz24 tby24 tz24 nI33 (by omega) (by omega) rfl kB rfl rfl rfl (by omega)
  (repeat' first
    | refine AWP.seq ?_
    | refine AWP.block ?_
    | (refine AWP.skip ?_; try dsimp only [thn, inBlk])
    | (refine AWP.exit ?_; try simp only [thn, inBlk, if_true, reduceIte, Nat.reduceEqDiff])
    | (refine AWP.ret ?_; try dsimp only [thn, inBlk])
    | (refine AWP.condT ?_ ?_; (focus (simp [go_sem, hjm', p0, q0, g4, h1', h2', f4, l4, e3, w1]; done)))
    | (refine AWP.condF ?_ ?_; (focus (simp [go_sem, hjm', p0, q0, g4, h1', h2', f4, l4, e3, w1]; done)))
    | (apply AWP.rE; (focus (simp [go_sem, hjm', p0, q0, g4, h1', h2', f4, l4, e3, w1]; exact ⟨rfl, rfl⟩)); try dsimp only [thn, inBlk])
    | fail)
  refine ⟨xs.length - (j + 1), by omega, j + 1, sel ++ [((((xk, xv, xo), xb), xm), wa, wc)], a2, cap2, by omega, rfl, by simp [go_sem], ?_, ?_⟩
  · rw [htk, List.filter_append, ← hsel]; simp [inb, h1, h2]
  · rw [List.map_append, List.map_append, List.length_append]
    have e := rcells_app (fs := sel.map fun z => z.1.1) (ac := sel.map Prod.snd) (f := ((xk, xv, xo), xb)) (p := (wa, wc)) (by simp)
    simp only [List.map_cons, List.map_nil] at e ⊢
    rw [e]
    exact k3
end L22
